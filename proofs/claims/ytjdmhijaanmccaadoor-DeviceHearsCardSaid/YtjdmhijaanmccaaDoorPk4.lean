/- Packed: Aj, EngX, Ak, Al, EngZ, Ao, Ap, EngAa, EngAb, Va, Aq, Vb, Vc, Vd, Ve, Row. No conditions. -/
import Derived.Test.YtjdmhijaanmccaaDoorPk3
import Derived.LoopN
import Derived.Test.YtjdmhijaanmccaaDoorRows
import Derived.WalkKit
import Derived.ProofKit
import Derived.OpenShut
import Derived.ShutString
import Derived.ChangeOld
import Derived.Below
import Derived.Carry
import Derived.SizedLaws
set_option maxHeartbeats 4000000
namespace Go.Proofs.YtjdmhijaanmccaaDoor.Ad
open Go Go.Proofs.YtjdmhijaanmccaaDoor.Eng Go.Proofs.YtjdmhijaanmccaaDoor.Mem Go.Proofs.YtjdmhijaanmccaaDoor.Ly
set_option linter.unusedSimpArgs false
set_option linter.unusedVariables false
set_option maxRecDepth 100000
abbrev YL(f bc:Nat):Value:= .func (.func f) #[] #[.pointer (some ⟨bc,0,none⟩)]
abbrev fn2(f bc b:Nat):Value:= .func (.func f) #[] #[.pointer (some ⟨bc,0,none⟩),.pointer (some ⟨b,0,none⟩)]
def EZ(bc:Nat):List Value:=[YL 61 bc,YL 64 bc,YL 65 bc,YL 66 bc,YL 67 bc]
def clo(f bc:Nat)(B:List Nat):List Value:=B.map fun b=>fn2 f bc b
theorem Uk{f bc b:Nat}{B:List Nat}:clo f bc (B++[b])=clo f bc B++[.func (.func f) #[] #[.pointer (some ⟨bc,0,none⟩),.pointer (some ⟨b,0,none⟩)]]:=List.map_append
theorem Iw{f bc:Nat}{B:List Nat}:(clo f bc B).length=B.length:=List.length_map _
def asks(bc:Nat)(B1 B2 B3:List Nat):List Value:=EZ bc++clo 68 bc B1++clo 70 bc B2++clo 72 bc B3++[.func (.func 74) #[] #[.pointer (some ⟨bc,0,none⟩)]]
def answers(c:Aj):List Ai:=[FX c,whole2 c,FU c,FV c,FC c]++(List.range c.Aa.xs.length).map (DK c)++(List.range c.Am.xs.length).map (DD c)++(List.range c.BB.xs.length).map (ER c)++[GH c]
def Ho(c:Aj):Ai:=AV (answers c)
theorem Xx{bc:Nat}{B1 B2 B3:List Nat}:(asks bc B1 B2 B3).length=6+B1.length+B2.length+B3.length:=by
 simp[asks,EZ,clo];omega
theorem GL{c:Aj}:(answers c).length=6+c.Aa.xs.length+c.Am.xs.length+c.BB.xs.length:=by
 simp[answers];omega
theorem Ky{α:Type}[Inhabited α]{a b:List α}{k:Nat}(h:k<a.length):gd (a++b) k=gd a k:=by
 rw[Gq (by rw[List.length_append];omega),Gq h,List.getElem_append_left h]
theorem SC{α:Type}[Inhabited α]{a b:List α}{k n:Nat}(h:n=a.length+k)(hk:k<b.length):gd (a++b) n=gd b k:=by
 subst h
 rw[Gq (by rw[List.length_append];omega),Gq hk,List.getElem_append_right (by omega)]
 congr 1;omega
theorem V5{β:Type}[Inhabited β]{f:Nat→β}{n i:Nat}(h:i<n):gd ((List.range n).map f) i=f i:=by
 rw[Gq (by simpa using h)];simp
theorem WZ{f bc b:Nat}{B:List Nat}{i:Nat}(h:B[i]? = some b):gd (clo f bc B) i=fn2 f bc b:=by
 obtain⟨hi,e⟩:=List.getElem?_eq_some_iff.1 h
 rw[Gq (by rw[Iw];exact hi)]
 simp[clo,e]
section
variable {c:Aj}{bc:Nat}{B1 B2 B3:List Nat}
theorem ask_lo{k:Nat}(hk:k<5):gd (asks bc B1 B2 B3) k=gd (EZ bc) k:=by
 unfold asks
 have h5:(EZ bc).length=5:=rfl
 rw[Ky (by simp only[List.length_append];omega),Ky (by simp only[List.length_append];omega),Ky (by simp only[List.length_append];omega),Ky (by omega)]
theorem Uz{k:Nat}(hk:k<5):gd (answers c) k=gd [FX c,whole2 c,FU c,FV c,FC c] k:=by
 unfold answers
 rw[Ky (by simp;omega),Ky (by simp;omega),Ky (by simp;omega),Ky (by simpa using hk)]
theorem WB{p:Nat}(hp:p<c.Aa.xs.length):gd (answers c) (5+p)=DK c p:=by
 unfold answers
 rw[Ky (by simp;omega),Ky (by simp;omega),Ky (by simp;omega),SC (k:=p) (by simp) (by simpa using hp),V5 hp]
theorem ans_h{p:Nat}(hp:p<c.Am.xs.length):gd (answers c) (5+c.Aa.xs.length+p)=DD c p:=by
 unfold answers
 rw[Ky (by simp;omega),Ky (by simp;omega),SC (k:=p) (by simp;omega) (by simpa using hp),V5 hp]
theorem ans_k{p:Nat}(hp:p<c.BB.xs.length):gd (answers c) (5+c.Aa.xs.length+c.Am.xs.length+p)=ER c p:=by
 unfold answers
 rw[Ky (by simp;omega),SC (k:=p) (by simp;omega) (by simpa using hp),V5 hp]
theorem ans_e:gd (answers c) (5+c.Aa.xs.length+c.Am.xs.length+c.BB.xs.length)=GH c:=by
 unfold answers
 rw[SC (k:=0) (by simp;omega) (by simp)];rfl
theorem kinds(h1:B1.length=c.Aa.xs.length)(h2:B2.length=c.Am.xs.length)(h3:B3.length=c.BB.xs.length){k:Nat}(hk:k<(asks bc B1 B2 B3).length) :
   (k=0∧gd (asks bc B1 B2 B3) k = .func (.func 61) #[] #[.pointer (some ⟨bc,0,none⟩)]∧gd (answers c) k=FX c)∨(k=1∧gd (asks bc B1 B2 B3) k = .func (.func 64) #[] #[.pointer (some ⟨bc,0,none⟩)]∧gd (answers c) k=whole2 c)∨(k=2∧gd (asks bc B1 B2 B3) k = .func (.func 65) #[] #[.pointer (some ⟨bc,0,none⟩)]∧gd (answers c) k=FU c) ∨
   (k=3∧gd (asks bc B1 B2 B3) k = .func (.func 66) #[] #[.pointer (some ⟨bc,0,none⟩)]∧gd (answers c) k=FV c)∨(k=4∧gd (asks bc B1 B2 B3) k = .func (.func 67) #[] #[.pointer (some ⟨bc,0,none⟩)]∧gd (answers c) k=FC c) ∨
   (∃ p b,k=5+p∧p<c.Aa.xs.length∧B1[p]? = some b∧gd (asks bc B1 B2 B3) k = .func (.func 68) #[] #[.pointer (some ⟨bc,0,none⟩),.pointer (some ⟨b,0,none⟩)]∧gd (answers c) k=DK c p) ∨
   (∃ p b,k=5+c.Aa.xs.length+p∧p<c.Am.xs.length∧B2[p]? = some b∧gd (asks bc B1 B2 B3) k = .func (.func 70) #[] #[.pointer (some ⟨bc,0,none⟩),.pointer (some ⟨b,0,none⟩)]∧gd (answers c) k=DD c p) ∨
   (∃ p b,k=5+c.Aa.xs.length+c.Am.xs.length+p∧p<c.BB.xs.length∧B3[p]? = some b∧gd (asks bc B1 B2 B3) k = .func (.func 72) #[] #[.pointer (some ⟨bc,0,none⟩),.pointer (some ⟨b,0,none⟩)]∧gd (answers c) k=ER c p) ∨
   (k=5+c.Aa.xs.length+c.Am.xs.length+c.BB.xs.length∧gd (asks bc B1 B2 B3) k = .func (.func 74) #[] #[.pointer (some ⟨bc,0,none⟩)]∧gd (answers c) k=GH c):=by
 rw[Xx]at hk
 have l5:(EZ bc).length=5:=rfl
 have hB:∀ (B:List Nat) (i:Nat),i<B.length→∃ b,B[i]? = some b:=fun B i hi=>⟨B[i],by simp[hi]⟩
 rcases Nat.lt_or_ge k 5 with g | g
 · rw[ask_lo g,Uz g]
   rcases(by omega:k=0∨k=1∨k=2∨k=3∨k=4)with rfl | rfl | rfl | rfl | rfl
   · exact .inl ⟨rfl,rfl,rfl⟩
   · exact .inr (.inl ⟨rfl,rfl,rfl⟩)
   · exact .inr (.inr (.inl ⟨rfl,rfl,rfl⟩))
   · exact .inr (.inr (.inr (.inl ⟨rfl,rfl,rfl⟩)))
   · exact .inr (.inr (.inr (.inr (.inl ⟨rfl,rfl,rfl⟩))))
 refine .inr (.inr (.inr (.inr (.inr ?_))))
 rcases Nat.lt_or_ge k (5+c.Aa.xs.length)with g1 | g1
 · obtain⟨p,rfl⟩:∃ p,k=5+p:=⟨k - 5,by omega⟩
   obtain⟨b,hb⟩:=hB B1 p (by omega)
   refine .inl ⟨p,b,rfl,by omega,hb, ?_,WB (by omega)⟩
   unfold asks
   rw[Ky (by simp only[List.length_append,Iw];omega),Ky (by simp only[List.length_append,Iw];omega),Ky (by simp only[List.length_append,Iw];omega),SC (k:=p) (by omega) (by rw[Iw];omega),WZ hb]
 rcases Nat.lt_or_ge k (5+c.Aa.xs.length+c.Am.xs.length)with g2 | g2
 · obtain⟨p,rfl⟩:∃ p,k=5+c.Aa.xs.length+p:=⟨k - (5+c.Aa.xs.length),by omega⟩
   obtain⟨b,hb⟩:=hB B2 p (by omega)
   refine .inr (.inl ⟨p,b,rfl,by omega,hb, ?_,ans_h (by omega)⟩)
   unfold asks
   rw[Ky (by simp only[List.length_append,Iw];omega),Ky (by simp only[List.length_append,Iw];omega),SC (k:=p) (by simp only[List.length_append,Iw];omega) (by rw[Iw];omega),WZ hb]
 rcases Nat.lt_or_ge k (5+c.Aa.xs.length+c.Am.xs.length+c.BB.xs.length)with g3 | g3
 · obtain⟨p,rfl⟩:∃ p,k=5+c.Aa.xs.length+c.Am.xs.length+p:=⟨k - (5+c.Aa.xs.length+c.Am.xs.length),by omega⟩
   obtain⟨b,hb⟩:=hB B3 p (by omega)
   refine .inr (.inr (.inl ⟨p,b,rfl,by omega,hb, ?_,ans_k (by omega)⟩))
   unfold asks
   rw[Ky (by simp only[List.length_append,Iw];omega),SC (k:=p) (by simp only[List.length_append,Iw];omega) (by rw[Iw];omega),WZ hb]
 · obtain rfl:k=5+c.Aa.xs.length+c.Am.xs.length+c.BB.xs.length:=by omega
   refine .inr (.inr (.inr ⟨rfl, ?_,ans_e⟩))
   unfold asks
   rw[SC (k:=0) (by simp only[List.length_append,Iw];omega) (by simp)];rfl
variable {n:Nat}(hf:∀ i,i<n→gd (answers c) i=BU)
theorem Wh(hf:∀ i,i<n→gd (answers c) i=BU)(hn:1≤n):1≤c.Frames∧c.Frames≤1024:=by
 have h:=hf 0 (by omega)
 rw[Uz (by decide)]at h
 exact Es ((Gn (by decide)).1 (show Ae (win c.Frames 1 1024) 400 ⟨-1, -1⟩=BU from h))
theorem ZW(hf:∀ i,i<n→gd (answers c) i=BU)(hn:4≤n):c.Aa.xs.length≤1024:=by
 have h:=hf 3 (by omega)
 rw[Uz (by decide)]at h
 have:=Es ((Gn (by decide)).1 (show Ae (win (c.Aa.xs.length:Int) 1 8) 403 ⟨-1, -1⟩=BU from h))
 omega
theorem Vu(hf:∀ i,i<n→gd (answers c) i=BU){q:Nat}(hq:q<c.Aa.xs.length)(hn:5+q<n):DK c q=BU:=by
 rw[←WB hq];exact hf _ hn
theorem XN{c:Aj}{p:Nat}(h:DK c p=BU):Em (AV (Hq c p)) (JU c p) (ES c p).AB.xs.length=BU:=by
 unfold DK at h
 rw[if_pos (MR (by unfold DK;exact h))]at h
 exact h
theorem ZG(hf:∀ i,i<n→gd (answers c) i=BU)(hn:5+c.Aa.xs.length≤n):∀ p,p<c.Aa.xs.length→(gd c.Aa.xs p).AB.xs.length≤1024:=by
 intro p hp
 have h:=(KL (XN (Vu hf hp (by omega)))).1
 have h2:=Kv h _ (List.mem_cons_of_mem _ (List.mem_cons_self ..))
 rw[Gn (by decide)]at h2
 have:=of_decide_eq_true h2
 simp only[ES]at this
 omega
end
end Go.Proofs.YtjdmhijaanmccaaDoor.Ad
namespace Go.Proofs.YtjdmhijaanmccaaDoor.Eng
open Go Go.Proofs.YtjdmhijaanmccaaDoor.Mem
set_option linter.unusedSimpArgs false
set_option linter.unusedVariables false
def caps(t:TypeId)(B:List Nat):Ch:= .inv (fun b=>b∈B) (fun w=>∀ (i b:Nat),B[i]? = some b→w.heap[b]? = some (.cells #[.int .i64 (i:Nat)] t (0,0))) true
theorem Uc(t:TypeId)(B:List Nat):(caps t B).stable:=fun w w' h hw i b hb=>(h b (List.mem_of_getElem? hb)).trans (hw i b hb)
theorem Rw{A:AW}{w:World}(h:Sat A w){i j b:Nat}{t:TypeId}{B:List Nat}(hb:B[j]? = some b)(hi:A.σ[i]? = some (caps t B):=by rfl):∀ (k:Nat) (v:Value),[Value.int .i64 (j:Nat)][k]? = some v→w.cell? ⟨b,0+k,none⟩=some v:=by
 have h1:w.heap[b]? = some (.cells #[.int .i64 (j:Nat)] t (0,0)):=h.at hi j b hb
 intro k v hk
 match k,hk with
 | 0,hk=>cases hk;simp[World.cell?,h1]
theorem JY{A:AW}{w:World}(h:Sat A w){i b:Nat}{cs:Array Value}{t:TypeId}{fr:Nat×Nat}{rw':Bool}{l:List Value}(hi:A.σ[i]? = some (.blk b (.cells cs t fr) rw'):=by rfl)(hl:l=cs.toList:=by rfl):∀ (k:Nat) (v:Value),l[k]? = some v→w.cell? ⟨b,0+k,none⟩=some v:=by
 have h1:w.heap[b]? = some (.cells cs t fr):=h.at hi
 intro k v hk
 subst hl
 simp[World.cell?,h1]at hk ⊢
 exact hk
theorem Sat.caps{A:AW}{w:World}(h:Sat A w)(i j:Nat)(is:List Nat){t:TypeId}{B:List Nat}{b n:Nat}{kept:List Ch}(hn:B.length=n)(hi:A.σ[i]? = some (caps t B))(hj:A.σ[j]? = some (.blk b (.cells #[.int .i64 (n:Nat)] t (0,0)) true))(hnd:nodupB is=true)(hni:is.contains i=false)(hnj:is.contains j=false)(hp:picks is A.σ=some kept):Sat { A with σ:=kept++[Eng.caps t (B++[b])] } w:=by
 have:=h.ZI is hnd hp (CJ.refl (fun _=>False) w) (fun _ _ _ _ x=>x) [Eng.caps t (B++[b])] (by
  intro d hd
  simp only[List.mem_singleton]at hd
  subst hd
  refine⟨fun k b' hb => ?_,Uc _ _, ?_⟩
  ·rcases Nat.lt_trichotomy k B.length with hk | hk | hk
   ·rw[List.getElem?_append_left hk]at hb
    exact h.at hi k b' hb
   ·subst hk
    rw[List.getElem?_append_right (Nat.le_refl _)]at hb
    simp at hb
    subst hb;subst hn
    exact h.at hj
   rw[List.getElem?_eq_none (by simp;omega)]at hb;cases hb
  ·intro b' hb'
   rw[h.size]
   rcases List.mem_append.1 hb' with hb' | hb'
   ·exact h.bnd _ (List.mem_of_getElem? hi) b' hb'
   exact h.bnd _ (List.mem_of_getElem? hj) b' (List.mem_singleton.1 hb')) (by simp) (by
  intro d hd d' hd' _ b' hb
  simp only[List.mem_singleton]at hd'
  subst hd'
  obtain⟨q,hq,hqs⟩:=KO hp d hd
  intro hb'
  rcases List.mem_append.1 hb' with hb' | hb'
  ·exact J8 h.IX (i:=i) (j:=q) (by rw[List.getElem?_map,hi];rfl) (by rw[List.getElem?_map,hqs];rfl) (fun e=>by subst e;simp[hq]at hni) rfl b' hb' hb
  exact J8 h.IX (i:=j) (j:=q) (by rw[List.getElem?_map,hj];rfl) (by rw[List.getElem?_map,hqs];rfl) (fun e=>by subst e;simp[hq]at hnj) rfl b' (List.mem_singleton.1 hb') hb)
 rw[h.size]at this
 exact this
section
variable {P:Program}{N:Nat}{env:Env}{ds:List Deferred}{A:AW}{s:List Kt}{Q:Exit→Act→World→Prop}{c:Code}{x:Exit}
theorem Vx(t:TypeId)(K:G P N env ds { A with σ:=A.σ++[caps t []] } c s Q):G P N env ds A c s Q :=
 fun a w hst=>K a w ⟨hst.sz,hst.df,hst.kn,hst.mem.more _ (fun i b h=>by simp at h) (Uc _ _) (fun b h=>by cases h)⟩
theorem WL(i j:Nat)(is:List Nat)(t:TypeId)(B:List Nat)(b n:Nat)(kept:List Ch)(hn:B.length=n)(K:E P N env ds { A with σ:=kept++[caps t (B++[b])] } x s Q)
   (hi:A.σ[i]? = some (caps t B):=by rfl) (hj:A.σ[j]? = some (.blk b (.cells #[.int .i64 (n:Nat)] t (0,0)) true):=by rfl) (hnd:nodupB is=true:=by rfl) (hni:is.contains i=false:=by rfl) (hnj:is.contains j=false:=by rfl) (hp:picks is A.σ=some kept:=by rfl):E P N env ds A x s Q :=
 fun a' w hst=>K a' w ⟨hst.sz,hst.df,hst.kn,hst.mem.caps i j is hn hi hj hnd hni hnj hp⟩
end
end Go.Proofs.YtjdmhijaanmccaaDoor.Eng
namespace Go.Proofs.YtjdmhijaanmccaaDoor.Ad
open Go Go.Proofs.YtjdmhijaanmccaaDoor.Eng Go.Proofs.YtjdmhijaanmccaaDoor.Mem Go.Proofs.YtjdmhijaanmccaaDoor.Ly
set_option linter.unusedSimpArgs false
set_option linter.unusedVariables false
set_option maxRecDepth 100000
section
variable (n10 z:Nat)(n17 n3:Nat)(c:Aj)(p n75:Nat)(n83 n91:Nat)(n35 n43:Nat)(n51 n59:Nat)(n67 n99:Nat)(ax19:Option Addr)(B1 B2 B3:List Nat)(cp20:Nat)(ax12:Option Addr)(cp13:Nat)(ax5:Option Addr)(cp6:Nat)(aL3:Option Addr)(cL3:Nat)(aL2:Option Addr)(cL2:Nat)(aL1:Option Addr)(cL1 b31:Nat)(cR b39:Nat)(b47 b55:Nat)(b63 b71:Nat)(b79 b87:Nat)(b95 k:Nat)
abbrev UE:=bk (n10+1) #[.func (.func 70) #[] #[pt (z+2),pt n10]] 109
abbrev Xh:=bk (n17+1) #[.func (.func 72) #[] #[pt (z+2),pt n17]] 109
abbrev U1:=bk (n3+1) #[.func (.func 68) #[] #[pt (z+2),pt n3]] 109
abbrev Zc:=bk (z+1) #[i6 ((DK c p).Af.First),i6 ((DK c p).Af.Second)] 38
abbrev Zi:=bk (z+1) #[i6 ((DD c p).Af.First),i6 ((DD c p).Af.Second)] 38
abbrev YF:=bk (z+1) #[i6 ((ER c p).Af.First),i6 ((ER c p).Af.Second)] 38
abbrev YM:=bk (z+1) #[i6 ((FX c).Af.First),i6 ((FX c).Af.Second)] 38
abbrev Zu:=bk (z+1) #[i6 ((whole2 c).Af.First),i6 ((whole2 c).Af.Second)] 38
abbrev YV:=bk (z+1) #[i6 ((FU c).Af.First),i6 ((FU c).Af.Second)] 38
abbrev Zt:=bk (z+1) #[i6 ((FV c).Af.First),i6 ((FV c).Af.Second)] 38
abbrev XO:=bk (z+1) #[i6 ((FC c).Af.First),i6 ((FC c).Af.Second)] 38
abbrev XJ:=bk (z+1) #[i6 ((GH c).Af.First),i6 ((GH c).Af.Second)] 38
abbrev Dp:=bk n17 #[.func (.func 74) #[] #[pt (z+2)]] 109
abbrev CX:=bk (z+1) #[i6 0,i6 0] 38
abbrev Tc:=bk n75 (Ai.arr (DK c p)) 111
abbrev TW:=bk n83 (Ai.arr (DD c p)) 111
abbrev TK:=bk n91 (Ai.arr (ER c p)) 111
abbrev Ub:=bk n35 (Ai.arr (FX c)) 111
abbrev TR:=bk n43 (Ai.arr (whole2 c)) 111
abbrev TI:=bk n51 (Ai.arr (FU c)) 111
abbrev TJ:=bk n59 (Ai.arr (FV c)) 111
abbrev Tz:=bk n67 (Ai.arr (FC c)) 111
abbrev Tm:=bk n99 (Ai.arr (GH c)) 111
abbrev BZ:=bk (z+2) (Aj.arr c) 26
abbrev BV:=bk z (Aj.arr c) 26
abbrev V9:=CP z 109 1 (fun v:Value=>[v]) (.slice ax19 ((EZ (z+2)++clo 68 (z+2) B1++clo 70 (z+2) B2++clo 72 (z+2) B3++[(.func (.func 72) #[] #[pt (z+2),pt n17]:Value)]).length) cp20) (EZ (z+2)++clo 68 (z+2) B1++clo 70 (z+2) B2++clo 72 (z+2) B3++[(.func (.func 72) #[] #[pt (z+2),pt n17]:Value)])
abbrev TY:=CP z 109 1 (fun v:Value=>[v]) (.slice ax12 ((EZ (z+2)++clo 68 (z+2) B1++clo 70 (z+2) B2++[(.func (.func 70) #[] #[pt (z+2),pt n10]:Value)]).length) cp13) (EZ (z+2)++clo 68 (z+2) B1++clo 70 (z+2) B2++[(.func (.func 70) #[] #[pt (z+2),pt n10]:Value)])
abbrev TS:=CP z 109 1 (fun v:Value=>[v]) (.slice ax5 ((EZ (z+2)++clo 68 (z+2) B1++[(.func (.func 68) #[] #[pt (z+2),pt n3]:Value)]).length) cp6) (EZ (z+2)++clo 68 (z+2) B1++[(.func (.func 68) #[] #[pt (z+2),pt n3]:Value)])
abbrev PZ:=CP z 109 1 (fun v:Value=>[v]) (.slice aL3 ((EZ (z+2)++clo 68 (z+2) B1++clo 70 (z+2) B2++clo 72 (z+2) B3).length) cL3) (EZ (z+2)++clo 68 (z+2) B1++clo 70 (z+2) B2++clo 72 (z+2) B3)
abbrev O8:=CP z 109 1 (fun v:Value=>[v]) (.slice aL2 ((EZ (z+2)++clo 68 (z+2) B1++clo 70 (z+2) B2).length) cL2) (EZ (z+2)++clo 68 (z+2) B1++clo 70 (z+2) B2)
abbrev MQ:=CP z 109 1 (fun v:Value=>[v]) (.slice aL1 ((EZ (z+2)++clo 68 (z+2) B1).length) cL1) (EZ (z+2)++clo 68 (z+2) B1)
abbrev PD:=CP z 109 1 (fun v:Value=>[v]) (.slice (some ⟨b31,0,none⟩) ((asks (z+2) B1 B2 B3).length) cR) (asks (z+2) B1 B2 B3)
abbrev Qe:=CP z 109 1 (fun v:Value=>[v]) (.slice (some ⟨b39,0,none⟩) ((asks (z+2) B1 B2 B3).length) cR) (asks (z+2) B1 B2 B3)
abbrev PQ:=CP z 109 1 (fun v:Value=>[v]) (.slice (some ⟨b47,0,none⟩) ((asks (z+2) B1 B2 B3).length) cR) (asks (z+2) B1 B2 B3)
abbrev PH:=CP z 109 1 (fun v:Value=>[v]) (.slice (some ⟨b55,0,none⟩) ((asks (z+2) B1 B2 B3).length) cR) (asks (z+2) B1 B2 B3)
abbrev PV:=CP z 109 1 (fun v:Value=>[v]) (.slice (some ⟨b63,0,none⟩) ((asks (z+2) B1 B2 B3).length) cR) (asks (z+2) B1 B2 B3)
abbrev Qh:=CP z 109 1 (fun v:Value=>[v]) (.slice (some ⟨b71,0,none⟩) ((asks (z+2) B1 B2 B3).length) cR) (asks (z+2) B1 B2 B3)
abbrev PL:=CP z 109 1 (fun v:Value=>[v]) (.slice (some ⟨b79,0,none⟩) ((asks (z+2) B1 B2 B3).length) cR) (asks (z+2) B1 B2 B3)
abbrev PS:=CP z 109 1 (fun v:Value=>[v]) (.slice (some ⟨b87,0,none⟩) ((asks (z+2) B1 B2 B3).length) cR) (asks (z+2) B1 B2 B3)
abbrev PR:=CP z 109 1 (fun v:Value=>[v]) (.slice (some ⟨b95,0,none⟩) ((asks (z+2) B1 B2 B3).length) cR) (asks (z+2) B1 B2 B3)
abbrev Vy:CO:=(3,.slice ax19 ((EZ (z+2)++clo 68 (z+2) B1++clo 70 (z+2) B2++clo 72 (z+2) B3++[(.func (.func 72) #[] #[pt (z+2),pt n17]:Value)]).length) cp20)
abbrev TU:CO:=(3,.slice ax12 ((EZ (z+2)++clo 68 (z+2) B1++clo 70 (z+2) B2++[(.func (.func 70) #[] #[pt (z+2),pt n10]:Value)]).length) cp13)
abbrev TD:CO:=(3,.slice ax5 ((EZ (z+2)++clo 68 (z+2) B1++[(.func (.func 68) #[] #[pt (z+2),pt n3]:Value)]).length) cp6)
abbrev QU:CO:=(8,.slice (some ⟨b31,0,none⟩) ((asks (z+2) B1 B2 B3).length) cR)
abbrev Rf:CO:=(8,.slice (some ⟨b39,0,none⟩) ((asks (z+2) B1 B2 B3).length) cR)
abbrev Rl:CO:=(8,.slice (some ⟨b47,0,none⟩) ((asks (z+2) B1 B2 B3).length) cR)
abbrev QM:CO:=(8,.slice (some ⟨b55,0,none⟩) ((asks (z+2) B1 B2 B3).length) cR)
abbrev QJ:CO:=(8,.slice (some ⟨b63,0,none⟩) ((asks (z+2) B1 B2 B3).length) cR)
abbrev QZ:CO:=(8,.slice (some ⟨b71,0,none⟩) ((asks (z+2) B1 B2 B3).length) cR)
abbrev QF:CO:=(8,.slice (some ⟨b79,0,none⟩) ((asks (z+2) B1 B2 B3).length) cR)
abbrev QG:CO:=(8,.slice (some ⟨b87,0,none⟩) ((asks (z+2) B1 B2 B3).length) cR)
abbrev QW:CO:=(8,.slice (some ⟨b95,0,none⟩) ((asks (z+2) B1 B2 B3).length) cR)
abbrev Dl:=(9,i6 (((asks (z+2) B1 B2 B3).length:Nat):Int))
abbrev JG:=(15,Ac c.Aa.xs.length)
abbrev Ll:=(26,Ac c.Am.xs.length)
abbrev NK:=(37,Ac c.BB.xs.length)
abbrev BN:=(3,pt (z+1))
abbrev FK:=(1,pt (z+2))
abbrev Hl:=(10,i6 ((k+1:Nat):Int))
end
theorem Ue(w:World)(hL:Gz w)(c:Aj)(hc:Aj.ok Any w c)(hS:c.Aa.xs.length+c.Am.xs.length+c.BB.xs.length≤15000000000000):Calls Tryd.prog 17 #[.agg (Aj.arr c)] w fun e w'=>e = .returned (.tuple #[.int .i64 (Ho c).e,.agg #[.int .i64 (Ho c).Af.First,.int .i64 (Ho c).Af.Second]])∧CJ (fun _=>False) w w':=by
 obtain⟨z,hz⟩:∃ z,z=w.heap.size:=⟨_,rfl⟩
 refine BP (args:=[.agg (Aj.arr c)]) 25 ⟨w,z,[(Ak w)]⟩ Tryd.func17 rfl (by kernel_rfl) (by kernel_rfl) (EQ hz) ?_
 have hpl:=hc.Aa.1.len;have hpc:=hc.BB.1.len;have hpch:=hc.Am.1.len
 refine DZ [0] [(0,.agg (Aj.arr c))] ?_
 refine q_c 7 1 [] [[o0,o0,o0],[(an 7 1)]] [Qb z,Qb z,Qb z,Qb z,Qb z,Qb z,Qb z] [(BN z),(7,.agg (Aj.arr c))] ⟨w,z+2,[(Ak w),(BV z c),(CX z)]⟩ rfl ⟨rfl,rfl,rfl,rfl,rfl,rfl,rfl,Ag⟩ ?_
 refine l_call [] [] 36 #[.agg (Aj.arr c)] (some 8) Ag ?_
 intro w1 hw1
 refine BP (args:=[.agg (Aj.arr c)]) 50 ⟨w,z+2,[(Ak w),(BV z c),(CX z)]⟩ Tryd.func36 rfl (by kernel_rfl) (by kernel_rfl) hw1 ?_
 refine q_c 14 0 [] [[o0,o0],[o0,o0,o0,o0,o0,o0,o0],[o0,(a1 3),o0,o0]] [Qb (z+2)] [(FK z),(3,.slice (some ⟨z+3,0,none⟩) 5 5),(JG c),(16,i6 0)] ⟨w,z+4,[(Ak w),(BV z c),(CX z),(BZ z c),(bk (z+3) #[.func (.func 61) #[] #[pt (z+2)],.func (.func 64) #[] #[pt (z+2)],.func (.func 65) #[] #[pt (z+2)],.func (.func 66) #[] #[pt (z+2)],.func (.func 67) #[] #[pt (z+2)]] 109)]⟩ rfl ⟨rfl,Ag⟩ ?_
 refine Xu 4 (z+3) z 109 1 (fun v:Value=>[v]) (EZ (z+2)) #[.func (.func 61) #[] #[pt (z+2)],.func (.func 64) #[] #[pt (z+2)],.func (.func 65) #[] #[pt (z+2)],.func (.func 66) #[] #[pt (z+2)],.func (.func 67) #[] #[pt (z+2)]] (by omega) (?_:G _ _ _ _ ⟨w,z+4,[(Ak w),(BV z c),(CX z),(BZ z c),(CP z 109 1 (fun v:Value=>[v]) (.slice (some ⟨z+3,0,none⟩) 5 5) (EZ (z+2)))]⟩ _ _ _)
 refine Vx 3 ?_
 refine DW (fun m a w'=>∃ (n3:Nat) (p0:Nat) (B1:List Nat) (aL1:Option Addr) (cL1:Nat),m=c.Aa.xs.length - p0∧z+4≤n3∧(p0≤c.Aa.xs.length)∧(B1.length=p0)∧St 50 [(FK z),(3,.slice aL1 ((EZ (z+2)++clo 68 (z+2) B1).length) cL1),(JG c),(16,Ac p0)] [] ⟨w,n3,[(Ak w),(BV z c),(CX z),(BZ z c),(MQ z B1 aL1 cL1),(caps 3 B1)]⟩ a w') (c.Aa.xs.length - 0) ?_ ?_
 ·intro a w' hs;exact⟨(z+4),0,([]),(some ⟨z+3,0,none⟩),5,rfl,Nat.le_refl _,Nat.zero_le _,rfl,(by(try dsimp only[CX,BZ,BV,MQ,JG,BN,FK]at hs ⊢);rw[show clo 68 (z+2) []=[]from rfl,List.append_nil];exact hs)⟩
 rintro m a w' ⟨n3,p0,B1,aL1,cL1,rfl,hn2,hkp0,hB1,hs⟩
 refine(?_:G Tryd.prog 50 [(FK z),(3,.slice aL1 ((EZ (z+2)++clo 68 (z+2) B1).length) cL1),(JG c),(16,Ac p0)] [] ⟨w,n3,[(Ak w),(BV z c),(CX z),(BZ z c),(MQ z B1 aL1 cL1),(caps 3 B1)]⟩ _ _ _) a w' hs
 clear hs a w'
 have hxl1:(EZ (z+2)++clo 68 (z+2) B1).length=5+p0:=by simp only[List.length_append,Iw,hB1];rfl
 refine DC ?_
 by_cases h4:(p0:Int)<(c.Aa.xs.length:Int)
 ·refine q_c 14 3 [1] [[oT],[o0,o0,(a1 6)],[o0,o0,o0]] [BT ((p0:Int)<(c.Aa.xs.length:Int)),Qb n3] [(FK z),(JG c),(16,Ac p0),(19,.slice aL1 ((EZ (z+2)++clo 68 (z+2) B1).length) cL1),(21,.slice (some ⟨n3+1,0,none⟩) 1 1)] ⟨w,n3+2,[(Ak w),(BV z c),(CX z),(BZ z c),(MQ z B1 aL1 cL1),(caps 3 B1),(bk n3 #[(Ac p0)] 3),(U1 z n3)]⟩ rfl ⟨bt,rfl,Ag⟩ ?_
  refine TF z 4 7 (EZ (z+2)++clo 68 (z+2) B1) [(.func (.func 68) #[] #[pt (z+2),pt n3]:Value)] (fun v:Value=>[v]) 109 1 8 (.slice aL1 ((EZ (z+2)++clo 68 (z+2) B1).length) cL1) (n3+1) 1 1 #[.func (.func 68) #[] #[pt (z+2),pt n3]] 109 (0,0) true (some 22) (by simp only[List.length_cons,List.length_nil];omega) (by simp only[List.length_cons,List.length_nil];omega) (show z≤n3+2 by omega) (fun ax5 cp6 n7 (hn8:n3+2≤n7) => ?_)
  refine BQ 5 0 [] [[o0],[(ov (i6 ((p0+1:Nat):Int))),o0]] [Wr ((p0:Int)+1) (((p0+1:Nat):Int))] [(FK z),(JG c),(16,i6 ((p0+1:Nat):Int)),(TD z n3 B1 ax5 cp6)] rfl ⟨CU,Ag⟩ ?_
  refine WL 5 6 [0,1,2,3,4,7] 3 B1 n3 p0 [(Ak w),(BV z c),(CX z),(BZ z c),(TS z n3 B1 ax5 cp6),(U1 z n3)] hB1 ?_
  refine Cc [0,1,2,3,4,6] [(Ak w),(BV z c),(CX z),(BZ z c),(TS z n3 B1 ax5 cp6),(caps 3 (B1++[n3]))] rfl rfl ?_
  refine BR [1,3,15,16] [(FK z),(TD z n3 B1 ax5 cp6),(JG c),(16,i6 ((p0+1:Nat):Int))] ?_
  refine Cj (fun a w' hs=>⟨c.Aa.xs.length - (p0+1),by omega,n7,(p0+1),(B1++[n3]),ax5,cp6,rfl,by omega,by omega,(by rw[List.length_append,hB1];rfl),(by(try dsimp only[U1,CX,BZ,BV,TS,MQ,TD,JG,FK]at hs ⊢);rw[Uk,←List.append_assoc];exact hs)⟩)
 refine A7 16 0 [0] [[oF],[o0,(a1 3),o0,o0]] [BF ((p0:Int)<(c.Aa.xs.length:Int)),Qb (z+2)] [(FK z),(3,.slice aL1 ((EZ (z+2)++clo 68 (z+2) B1).length) cL1),(Ll c),(27,i6 0)] rfl ⟨bf,rfl,Ag⟩ ?_
 refine Vx 3 ?_
 refine DW (fun m a w'=>∃ (n10:Nat) (h0:Nat) (B2:List Nat) (aL2:Option Addr) (cL2:Nat),m=c.Am.xs.length - h0∧n3≤n10∧(h0≤c.Am.xs.length)∧(B2.length=h0)∧St 50 [(FK z),(3,.slice aL2 ((EZ (z+2)++clo 68 (z+2) B1++clo 70 (z+2) B2).length) cL2),(Ll c),(27,Ac h0)] [] ⟨w,n10,[(Ak w),(BV z c),(CX z),(BZ z c),(O8 z B1 B2 aL2 cL2),(caps 3 B1),(caps 3 B2)]⟩ a w') (c.Am.xs.length - 0) ?_ ?_
 ·intro a w' hs;exact⟨n3,0,([]),aL1,cL1,rfl,Nat.le_refl _,Nat.zero_le _,rfl,(by(try dsimp only[U1,CX,BZ,BV,TS,O8,MQ,TD,JG,Ll,FK]at hs ⊢);rw[show clo 70 (z+2) []=[]from rfl,List.append_nil];exact hs)⟩
 rintro m a w' ⟨n10,h0,B2,aL2,cL2,rfl,hn9,hkh0,hB2,hs⟩
 refine(?_:G Tryd.prog 50 [(FK z),(3,.slice aL2 ((EZ (z+2)++clo 68 (z+2) B1++clo 70 (z+2) B2).length) cL2),(Ll c),(27,Ac h0)] [] ⟨w,n10,[(Ak w),(BV z c),(CX z),(BZ z c),(O8 z B1 B2 aL2 cL2),(caps 3 B1),(caps 3 B2)]⟩ _ _ _) a w' hs
 clear hs a w'
 have hxl2:(EZ (z+2)++clo 68 (z+2) B1++clo 70 (z+2) B2).length=5+B1.length+h0:=by simp only[List.length_append,Iw,hB2];rfl
 refine DC ?_
 by_cases h11:(h0:Int)<(c.Am.xs.length:Int)
 ·refine q_c 14 3 [1] [[oT],[o0,o0,(a1 7)],[o0,o0,o0]] [BT ((h0:Int)<(c.Am.xs.length:Int)),Qb n10] [(FK z),(Ll c),(27,Ac h0),(30,.slice aL2 ((EZ (z+2)++clo 68 (z+2) B1++clo 70 (z+2) B2).length) cL2),(32,.slice (some ⟨n10+1,0,none⟩) 1 1)] ⟨w,n10+2,[(Ak w),(BV z c),(CX z),(BZ z c),(O8 z B1 B2 aL2 cL2),(caps 3 B1),(caps 3 B2),(bk n10 #[(Ac h0)] 3),(UE n10 z)]⟩ rfl ⟨bt,rfl,Ag⟩ ?_
  refine TF z 4 8 (EZ (z+2)++clo 68 (z+2) B1++clo 70 (z+2) B2) [(.func (.func 70) #[] #[pt (z+2),pt n10]:Value)] (fun v:Value=>[v]) 109 1 8 (.slice aL2 ((EZ (z+2)++clo 68 (z+2) B1++clo 70 (z+2) B2).length) cL2) (n10+1) 1 1 #[.func (.func 70) #[] #[pt (z+2),pt n10]] 109 (0,0) true (some 33) (by simp only[List.length_cons,List.length_nil];omega) (by simp only[List.length_cons,List.length_nil];omega) (show z≤n10+2 by omega) (fun ax12 cp13 n14 (hn15:n10+2≤n14) => ?_)
  refine BQ 5 0 [] [[o0],[(ov (i6 ((h0+1:Nat):Int))),o0]] [Wr ((h0:Int)+1) (((h0+1:Nat):Int))] [(FK z),(Ll c),(27,i6 ((h0+1:Nat):Int)),(TU n10 z B1 B2 ax12 cp13)] rfl ⟨CU,Ag⟩ ?_
  refine WL 6 7 [0,1,2,3,4,5,8] 3 B2 n10 h0 [(Ak w),(BV z c),(CX z),(BZ z c),(TY n10 z B1 B2 ax12 cp13),(caps 3 B1),(UE n10 z)] hB2 ?_
  refine Cc [0,1,2,3,4,5,7] [(Ak w),(BV z c),(CX z),(BZ z c),(TY n10 z B1 B2 ax12 cp13),(caps 3 B1),(caps 3 (B2++[n10]))] rfl rfl ?_
  refine BR [1,3,26,27] [(FK z),(TU n10 z B1 B2 ax12 cp13),(Ll c),(27,i6 ((h0+1:Nat):Int))] ?_
  refine Cj (fun a w' hs=>⟨c.Am.xs.length - (h0+1),by omega,n14,(h0+1),(B2++[n10]),ax12,cp13,rfl,by omega,by omega,(by rw[List.length_append,hB2];rfl),(by(try dsimp only[UE,CX,BZ,BV,TY,O8,MQ,TU,JG,Ll,FK]at hs ⊢);rw[Uk,←List.append_assoc];exact hs)⟩)
 refine A7 16 0 [0] [[oF],[o0,(a1 3),o0,o0]] [BF ((h0:Int)<(c.Am.xs.length:Int)),Qb (z+2)] [(FK z),(3,.slice aL2 ((EZ (z+2)++clo 68 (z+2) B1++clo 70 (z+2) B2).length) cL2),(NK c),(38,i6 0)] rfl ⟨bf,rfl,Ag⟩ ?_
 refine Vx 3 ?_
 refine DW (fun m a w'=>∃ (n17:Nat) (k0:Nat) (B3:List Nat) (aL3:Option Addr) (cL3:Nat),m=c.BB.xs.length - k0∧n10≤n17∧(k0≤c.BB.xs.length)∧(B3.length=k0)∧St 50 [(FK z),(3,.slice aL3 ((EZ (z+2)++clo 68 (z+2) B1++clo 70 (z+2) B2++clo 72 (z+2) B3).length) cL3),(NK c),(38,Ac k0)] [] ⟨w,n17,[(Ak w),(BV z c),(CX z),(BZ z c),(PZ z B1 B2 B3 aL3 cL3),(caps 3 B1),(caps 3 B2),(caps 3 B3)]⟩ a w') (c.BB.xs.length - 0) ?_ ?_
 ·intro a w' hs;exact⟨n10,0,([]),aL2,cL2,rfl,Nat.le_refl _,Nat.zero_le _,rfl,(by(try dsimp only[UE,CX,BZ,BV,TY,PZ,O8,MQ,TU,JG,Ll,NK,FK]at hs ⊢);rw[show clo 72 (z+2) []=[]from rfl,List.append_nil];exact hs)⟩
 rintro m a w' ⟨n17,k0,B3,aL3,cL3,rfl,hn16,hkk0,hB3,hs⟩
 refine(?_:G Tryd.prog 50 [(FK z),(3,.slice aL3 ((EZ (z+2)++clo 68 (z+2) B1++clo 70 (z+2) B2++clo 72 (z+2) B3).length) cL3),(NK c),(38,Ac k0)] [] ⟨w,n17,[(Ak w),(BV z c),(CX z),(BZ z c),(PZ z B1 B2 B3 aL3 cL3),(caps 3 B1),(caps 3 B2),(caps 3 B3)]⟩ _ _ _) a w' hs
 clear hs a w'
 have hxl3:(EZ (z+2)++clo 68 (z+2) B1++clo 70 (z+2) B2++clo 72 (z+2) B3).length=5+B1.length+B2.length+k0:=by simp only[List.length_append,Iw,hB3];rfl
 refine DC ?_
 by_cases h18:(k0:Int)<(c.BB.xs.length:Int)
 ·refine q_c 14 3 [1] [[oT],[o0,o0,(a1 8)],[o0,o0,o0]] [BT ((k0:Int)<(c.BB.xs.length:Int)),Qb n17] [(FK z),(NK c),(38,Ac k0),(41,.slice aL3 ((EZ (z+2)++clo 68 (z+2) B1++clo 70 (z+2) B2++clo 72 (z+2) B3).length) cL3),(43,.slice (some ⟨n17+1,0,none⟩) 1 1)] ⟨w,n17+2,[(Ak w),(BV z c),(CX z),(BZ z c),(PZ z B1 B2 B3 aL3 cL3),(caps 3 B1),(caps 3 B2),(caps 3 B3),(bk n17 #[(Ac k0)] 3),(Xh z n17)]⟩ rfl ⟨bt,rfl,Ag⟩ ?_
  refine TF z 4 9 (EZ (z+2)++clo 68 (z+2) B1++clo 70 (z+2) B2++clo 72 (z+2) B3) [(.func (.func 72) #[] #[pt (z+2),pt n17]:Value)] (fun v:Value=>[v]) 109 1 8 (.slice aL3 ((EZ (z+2)++clo 68 (z+2) B1++clo 70 (z+2) B2++clo 72 (z+2) B3).length) cL3) (n17+1) 1 1 #[.func (.func 72) #[] #[pt (z+2),pt n17]] 109 (0,0) true (some 44) (by simp only[List.length_cons,List.length_nil];omega) (by simp only[List.length_cons,List.length_nil];omega) (show z≤n17+2 by omega) (fun ax19 cp20 n21 (hn22:n17+2≤n21) => ?_)
  refine BQ 5 0 [] [[o0],[(ov (i6 ((k0+1:Nat):Int))),o0]] [Wr ((k0:Int)+1) (((k0+1:Nat):Int))] [(FK z),(NK c),(38,i6 ((k0+1:Nat):Int)),(Vy z n17 ax19 B1 B2 B3 cp20)] rfl ⟨CU,Ag⟩ ?_
  refine WL 7 8 [0,1,2,3,4,5,6,9] 3 B3 n17 k0 [(Ak w),(BV z c),(CX z),(BZ z c),(V9 z n17 ax19 B1 B2 B3 cp20),(caps 3 B1),(caps 3 B2),(Xh z n17)] hB3 ?_
  refine Cc [0,1,2,3,4,5,6,8] [(Ak w),(BV z c),(CX z),(BZ z c),(V9 z n17 ax19 B1 B2 B3 cp20),(caps 3 B1),(caps 3 B2),(caps 3 (B3++[n17]))] rfl rfl ?_
  refine BR [1,3,37,38] [(FK z),(Vy z n17 ax19 B1 B2 B3 cp20),(NK c),(38,i6 ((k0+1:Nat):Int))] ?_
  refine Cj (fun a w' hs=>⟨c.BB.xs.length - (k0+1),by omega,n21,(k0+1),(B3++[n17]),ax19,cp20,rfl,by omega,by omega,(by rw[List.length_append,hB3];rfl),(by(try dsimp only[Xh,CX,BZ,BV,V9,PZ,O8,MQ,Vy,JG,Ll,NK,FK]at hs ⊢);rw[Uk,←List.append_assoc];exact hs)⟩)
 refine q_c 12 3 [0] [[oF],[o0,o0,o0]] [BF ((k0:Int)<(c.BB.xs.length:Int))] [(46,.slice aL3 ((EZ (z+2)++clo 68 (z+2) B1++clo 70 (z+2) B2++clo 72 (z+2) B3).length) cL3),(48,.slice (some ⟨n17,0,none⟩) 1 1)] ⟨w,n17+1,[(Ak w),(BV z c),(CX z),(BZ z c),(PZ z B1 B2 B3 aL3 cL3),(caps 3 B1),(caps 3 B2),(caps 3 B3),(Dp z n17)]⟩ rfl ⟨bf,Ag⟩ ?_
 refine TF z 4 8 (EZ (z+2)++clo 68 (z+2) B1++clo 70 (z+2) B2++clo 72 (z+2) B3) [(.func (.func 74) #[] #[pt (z+2)]:Value)] (fun v:Value=>[v]) 109 1 8 (.slice aL3 ((EZ (z+2)++clo 68 (z+2) B1++clo 70 (z+2) B2++clo 72 (z+2) B3).length) cL3) n17 1 1 #[.func (.func 74) #[] #[pt (z+2)]] 109 (0,0) true (some 49) (by simp only[List.length_cons,List.length_nil];omega) (by simp only[List.length_cons,List.length_nil];omega) (show z≤n17+1 by omega) (fun ax23 cp24 n25 (hn26:n17+1≤n25) => ?_)
 refine BQ 3 0 [] [[o0]] [] [(2,.slice ax23 ((EZ (z+2)++clo 68 (z+2) B1++clo 70 (z+2) B2++clo 72 (z+2) B3++[(.func (.func 74) #[] #[pt (z+2)]:Value)]).length) cp24)] rfl Ag ?_
 refine AX [] [] (.slice ax23 ((EZ (z+2)++clo 68 (z+2) B1++clo 70 (z+2) B2++clo 72 (z+2) B3++[(.func (.func 74) #[] #[pt (z+2)]:Value)]).length) cp24) Ag ?_
 intro w27 hw27
 refine⟨_,_,rfl,hw27, ?_⟩
 refine BQ 3 0 [] [[o0,o0]] [] [(BN z),(8,.slice ax23 ((EZ (z+2)++clo 68 (z+2) B1++clo 70 (z+2) B2++clo 72 (z+2) B3++[(.func (.func 74) #[] #[pt (z+2)]:Value)]).length) cp24),(9,i6 (((EZ (z+2)++clo 68 (z+2) B1++clo 70 (z+2) B2++clo 72 (z+2) B3++[(.func (.func 74) #[] #[pt (z+2)]:Value)]).length:Nat):Int)),(10,i6 0)] rfl Ag ?_
 refine DW (fun m a w'=>∃ (n29:Nat) (k:Nat) (aR:Option Addr) (cR:Nat),m=(asks (z+2) B1 B2 B3).length - k∧n25≤n29∧(k≤(asks (z+2) B1 B2 B3).length)∧(∀ i,i<k→gd (answers c) i=BU)∧St 25 [(BN z),(8,.slice aR ((asks (z+2) B1 B2 B3).length) cR),(Dl z B1 B2 B3),(10,Ac k)] [] ⟨w,n29,[(Ak w),(BV z c),(CX z),(BZ z c),(CP z 109 1 (fun v:Value=>[v]) (.slice aR ((asks (z+2) B1 B2 B3).length) cR) (asks (z+2) B1 B2 B3)),(caps 3 B1),(caps 3 B2),(caps 3 B3),(Dp z n17)]⟩ a w') ((asks (z+2) B1 B2 B3).length - 0) ?_ ?_
 ·intro a w' hs;exact⟨n25,0,ax23,cp24,rfl,Nat.le_refl _,Nat.zero_le _,fun i hi=>absurd hi (Nat.not_lt_zero i),hs⟩
 rintro m a w' ⟨n29,k,aR,cR,rfl,hn28,hkk,hf,hs⟩
 refine(?_:G Tryd.prog 25 [(BN z),(8,.slice aR ((asks (z+2) B1 B2 B3).length) cR),(Dl z B1 B2 B3),(10,Ac k)] [] ⟨w,n29,[(Ak w),(BV z c),(CX z),(BZ z c),(CP z 109 1 (fun v:Value=>[v]) (.slice aR ((asks (z+2) B1 B2 B3).length) cR) (asks (z+2) B1 B2 B3)),(caps 3 B1),(caps 3 B2),(caps 3 B3),(Dp z n17)]⟩ _ _ _) a w' hs
 clear hs a w'
 have hB1:B1.length=c.Aa.xs.length:=by omega
 have hB2:B2.length=c.Am.xs.length:=by omega
 have hB3:B3.length=c.BB.xs.length:=by omega
 have htot:(asks (z+2) B1 B2 B3).length=_:=Xx
 refine DC ?_
 by_cases h30:(k:Int)<(((asks (z+2) B1 B2 B3).length:Nat):Int)
 ·refine A7 10 0 [1] [[oT]] [BT ((k:Int)<(((asks (z+2) B1 B2 B3).length:Nat):Int))] [(BN z),(8,.slice aR ((asks (z+2) B1 B2 B3).length) cR),(Dl z B1 B2 B3),(10,Ac k),(11,.bool true)] rfl ⟨bt,Ag⟩ ?_
  rcases kinds (c:=c) (bc:=z+2) hB1 hB2 hB3 (k:=k) (by omega)with⟨hk0,hv,ha⟩ | ⟨hk0,hv,ha⟩ | ⟨hk0,hv,ha⟩ | ⟨hk0,hv,ha⟩ | ⟨hk0,hv,ha⟩ | ⟨p,b,hk0,hp,hb,hv,ha⟩ | ⟨p,b,hk0,hp,hb,hv,ha⟩ | ⟨p,b,hk0,hp,hb,hv,ha⟩ | ⟨hk0,hv,ha⟩
  ·refine I4 (base:=z) (e:=109) (sz:=1) (cells:=(fun v:Value=>[v])) (a:=aR) (n:=((asks (z+2) B1 B2 B3).length)) (cap:=cR) (xs:=(asks (z+2) B1 B2 B3)) 4 (by omega) (fun b31 hg32 hb33 => ?_)
   subst hg32
   refine A7 5 1 [] [[(oi k),(oa [.via 4 (.func (.func 61) #[] #[pt (z+2)])]),o0],[o0]] [Ed k,k<(asks (z+2) B1 B2 B3).length,Dt,∀ w',Ch.holds (PD z B1 B2 B3 b31 cR) w'→w'.cell? ⟨b31,0+k,none⟩=some (.func (.func 61) #[] #[pt (z+2)])] [(BN z),(QU z B1 B2 B3 b31 cR),(Dl z B1 B2 B3),(10,Ac k),(14,.func (.func 61) #[] #[pt (z+2)])] rfl ⟨rfl,(by omega),rfl,FH (sz:=1) (j:=k) (k:=0) (fun _=>rfl) (by omega) (congrArg some hv),Ag⟩ ?_
   refine Bz 61 #[pt (z+2)] (some 15) (.agg (Ai.arr (FX c))) (fun w34 hw34=>ZC w34 (hL.ext (hw34.ext rfl)) c (hc.ext (hw34.ext rfl) (fun _ h=>h)) (z+2) (JY hw34 (i:=3))) (fun n35 (hn36:n29≤n35) => ?_)
   refine FD 3 0 [] [[o0,(an 3 9)]] [Qb n35,Qb n35,Qb n35] [(BN z),(QU z B1 B2 B3 b31 cR),(Dl z B1 B2 B3),(10,Ac k),(6,pt n35)] ⟨w,n35+1,[(Ak w),(BV z c),(CX z),(BZ z c),(PD z B1 B2 B3 b31 cR),(caps 3 B1),(caps 3 B2),(caps 3 B3),(Dp z n17),(Ub c n35)]⟩ rfl ⟨rfl,rfl,rfl,Ag⟩ ?_
   by_cases h37:(((FX c).e:Int)==(0:Int)&&((((FX c).Af.First:Int)==(0:Int)&&(((FX c).Af.Second:Int)==(0:Int)&&true))&&true))=true
   ·refine A7 9 0 [0] [[(an 3 9),(oa [.via 0 (i6 0),.via 0 (i6 0),.via 0 (i6 0)]),⟨.seq true,none⟩],[(ov (i6 ((k+1:Nat):Int))),o0]] [Qb n35,Qb n35,Qb n35,Old w 0 0 (i6 0),Old w 0 1 (i6 0),Old w 0 2 (i6 0),(((FX c).e:Int)==(0:Int)&&((((FX c).Af.First:Int)==(0:Int)&&(((FX c).Af.Second:Int)==(0:Int)&&true))&&true))=true,Wr ((k:Int)+1) (((k+1:Nat):Int))] [(BN z),(QU z B1 B2 B3 b31 cR),(Dl z B1 B2 B3),(Hl k)] rfl ⟨rfl,rfl,rfl,Aq (hL.2 0 _ rfl),Aq (hL.2 1 _ rfl),Aq (hL.2 2 _ rfl),h37,CU,Ag⟩ ?_
    refine Cc [0,1,2,3,4,5,6,7,8] [(Ak w),(BV z c),(CX z),(BZ z c),(PD z B1 B2 B3 b31 cR),(caps 3 B1),(caps 3 B2),(caps 3 B3),(Dp z n17)] rfl rfl ?_
    refine BR [3,8,9,10] [(BN z),(QU z B1 B2 B3 b31 cR),(Dl z B1 B2 B3),(Hl k)] ?_
    refine Cj (fun a w' hs=>⟨(asks (z+2) B1 B2 B3).length - (k+1),by omega,(n35+1),(k+1),(some ⟨b31,0,none⟩),cR,rfl,by omega,by omega,Gj hf (by rw[ha];exact EI.1 h37),hs⟩)
   refine A7 5 0 [1] [[(an 3 9),(oa [.via 0 (i6 0),.via 0 (i6 0),.via 0 (i6 0)]),⟨.seq false,none⟩]] [Qb n35,Qb n35,Qb n35,Old w 0 0 (i6 0),Old w 0 1 (i6 0),Old w 0 2 (i6 0),(((FX c).e:Int)==(0:Int)&&((((FX c).Af.First:Int)==(0:Int)&&(((FX c).Af.Second:Int)==(0:Int)&&true))&&true))=false] [(BN z),(QU z B1 B2 B3 b31 cR),(Dl z B1 B2 B3),(10,Ac k),(6,pt n35),(18,.bool true)] rfl ⟨rfl,rfl,rfl,Aq (hL.2 0 _ rfl),Aq (hL.2 1 _ rfl),Aq (hL.2 2 _ rfl),(Bool.eq_false_iff.2 h37),Ag⟩ ?_
   refine DN 5 [0,1,2,3,4,5,6,7,8,9] [(Ak w),(BV z c),(CX z),(BZ z c),(PD z B1 B2 B3 b31 cR),(caps 3 B1),(caps 3 B2),(caps 3 B3),(Dp z n17),(Ub c n35)] rfl rfl ?_
   refine Dc [(0,o0),(1,(a1 9)),(2,o0),(3,(an 2 9)),(4,o0)] [3,22,2] [Qb n35,Qb n35,Qb n35] (Dj 5 1) [(BN z),(22,.agg #[i6 ((FX c).Af.First),i6 ((FX c).Af.Second)]),(2,i6 ((FX c).e))] ⟨rfl,rfl,rfl,Ag⟩ ?_
   refine Bo 5 ?_
   refine Bq (an 2 2) [3,2] [Qb (z+1),Qb (z+1)] [(BN z),(2,i6 ((FX c).e))] ⟨w,n35+1,[(Ak w),(BV z c),(YM z c),(BZ z c),(PD z B1 B2 B3 b31 cR),(caps 3 B1),(caps 3 B2),(caps 3 B3),(Dp z n17),(Ub c n35)]⟩ [] ⟨rfl,rfl,Ag⟩ (.inl rfl) ?_
   refine D8 6 [0,1,2,3,4,5,6,7,8,9] [(Ak w),(BV z c),(YM z c),(BZ z c),(PD z B1 B2 B3 b31 cR),(caps 3 B1),(caps 3 B2),(caps 3 B3),(Dp z n17),(Ub c n35)] rfl rfl ?_
   refine CV ?_
   refine BR [3,2] [(BN z),(2,i6 ((FX c).e))] ?_
   refine GZ <| JA <| AX [.at 2,.at 2] [Qb (z+1),Qb (z+1)] (.tuple #[i6 ((FX c).e),.agg #[i6 ((FX c).Af.First),i6 ((FX c).Af.Second)]]) ⟨rfl,rfl,Ag⟩ ?_
   intro w38 hw38
   exact⟨congrArg (fun t:Ai=>Ending.returned (.tuple #[i6 t.e,.agg #[i6 t.Af.First,i6 t.Af.Second]])) ((MW (xs:=answers c) (k:=k) (by rw[GL];omega) hf (by rw[ha];exact fun x=>h37 (EI.2 x))).trans ha).symm,BC hw38⟩
  ·refine I4 (base:=z) (e:=109) (sz:=1) (cells:=(fun v:Value=>[v])) (a:=aR) (n:=((asks (z+2) B1 B2 B3).length)) (cap:=cR) (xs:=(asks (z+2) B1 B2 B3)) 4 (by omega) (fun b39 hg40 hb41 => ?_)
   subst hg40
   refine A7 5 1 [] [[(oi k),(oa [.via 4 (.func (.func 64) #[] #[pt (z+2)])]),o0],[o0]] [Ed k,k<(asks (z+2) B1 B2 B3).length,Dt,∀ w',Ch.holds (Qe z B1 B2 B3 cR b39) w'→w'.cell? ⟨b39,0+k,none⟩=some (.func (.func 64) #[] #[pt (z+2)])] [(BN z),(Rf z B1 B2 B3 cR b39),(Dl z B1 B2 B3),(10,Ac k),(14,.func (.func 64) #[] #[pt (z+2)])] rfl ⟨rfl,(by omega),rfl,FH (sz:=1) (j:=k) (k:=0) (fun _=>rfl) (by omega) (congrArg some hv),Ag⟩ ?_
   refine Bz 64 #[pt (z+2)] (some 15) (.agg (Ai.arr (whole2 c))) (fun w42 hw42=>ZB w42 (hL.ext (hw42.ext rfl)) c (hc.ext (hw42.ext rfl) (fun _ h=>h)) (z+2) (JY hw42 (i:=3))) (fun n43 (hn44:n29≤n43) => ?_)
   refine FD 3 0 [] [[o0,(an 3 9)]] [Qb n43,Qb n43,Qb n43] [(BN z),(Rf z B1 B2 B3 cR b39),(Dl z B1 B2 B3),(10,Ac k),(6,pt n43)] ⟨w,n43+1,[(Ak w),(BV z c),(CX z),(BZ z c),(Qe z B1 B2 B3 cR b39),(caps 3 B1),(caps 3 B2),(caps 3 B3),(Dp z n17),(TR c n43)]⟩ rfl ⟨rfl,rfl,rfl,Ag⟩ ?_
   by_cases h45:(((whole2 c).e:Int)==(0:Int)&&((((whole2 c).Af.First:Int)==(0:Int)&&(((whole2 c).Af.Second:Int)==(0:Int)&&true))&&true))=true
   ·refine A7 9 0 [0] [[(an 3 9),(oa [.via 0 (i6 0),.via 0 (i6 0),.via 0 (i6 0)]),⟨.seq true,none⟩],[(ov (i6 ((k+1:Nat):Int))),o0]] [Qb n43,Qb n43,Qb n43,Old w 0 0 (i6 0),Old w 0 1 (i6 0),Old w 0 2 (i6 0),(((whole2 c).e:Int)==(0:Int)&&((((whole2 c).Af.First:Int)==(0:Int)&&(((whole2 c).Af.Second:Int)==(0:Int)&&true))&&true))=true,Wr ((k:Int)+1) (((k+1:Nat):Int))] [(BN z),(Rf z B1 B2 B3 cR b39),(Dl z B1 B2 B3),(Hl k)] rfl ⟨rfl,rfl,rfl,Aq (hL.2 0 _ rfl),Aq (hL.2 1 _ rfl),Aq (hL.2 2 _ rfl),h45,CU,Ag⟩ ?_
    refine Cc [0,1,2,3,4,5,6,7,8] [(Ak w),(BV z c),(CX z),(BZ z c),(Qe z B1 B2 B3 cR b39),(caps 3 B1),(caps 3 B2),(caps 3 B3),(Dp z n17)] rfl rfl ?_
    refine BR [3,8,9,10] [(BN z),(Rf z B1 B2 B3 cR b39),(Dl z B1 B2 B3),(Hl k)] ?_
    refine Cj (fun a w' hs=>⟨(asks (z+2) B1 B2 B3).length - (k+1),by omega,(n43+1),(k+1),(some ⟨b39,0,none⟩),cR,rfl,by omega,by omega,Gj hf (by rw[ha];exact EI.1 h45),hs⟩)
   refine A7 5 0 [1] [[(an 3 9),(oa [.via 0 (i6 0),.via 0 (i6 0),.via 0 (i6 0)]),⟨.seq false,none⟩]] [Qb n43,Qb n43,Qb n43,Old w 0 0 (i6 0),Old w 0 1 (i6 0),Old w 0 2 (i6 0),(((whole2 c).e:Int)==(0:Int)&&((((whole2 c).Af.First:Int)==(0:Int)&&(((whole2 c).Af.Second:Int)==(0:Int)&&true))&&true))=false] [(BN z),(Rf z B1 B2 B3 cR b39),(Dl z B1 B2 B3),(10,Ac k),(6,pt n43),(18,.bool true)] rfl ⟨rfl,rfl,rfl,Aq (hL.2 0 _ rfl),Aq (hL.2 1 _ rfl),Aq (hL.2 2 _ rfl),(Bool.eq_false_iff.2 h45),Ag⟩ ?_
   refine DN 5 [0,1,2,3,4,5,6,7,8,9] [(Ak w),(BV z c),(CX z),(BZ z c),(Qe z B1 B2 B3 cR b39),(caps 3 B1),(caps 3 B2),(caps 3 B3),(Dp z n17),(TR c n43)] rfl rfl ?_
   refine Dc [(0,o0),(1,(a1 9)),(2,o0),(3,(an 2 9)),(4,o0)] [3,22,2] [Qb n43,Qb n43,Qb n43] (Dj 5 1) [(BN z),(22,.agg #[i6 ((whole2 c).Af.First),i6 ((whole2 c).Af.Second)]),(2,i6 ((whole2 c).e))] ⟨rfl,rfl,rfl,Ag⟩ ?_
   refine Bo 5 ?_
   refine Bq (an 2 2) [3,2] [Qb (z+1),Qb (z+1)] [(BN z),(2,i6 ((whole2 c).e))] ⟨w,n43+1,[(Ak w),(BV z c),(Zu z c),(BZ z c),(Qe z B1 B2 B3 cR b39),(caps 3 B1),(caps 3 B2),(caps 3 B3),(Dp z n17),(TR c n43)]⟩ [] ⟨rfl,rfl,Ag⟩ (.inl rfl) ?_
   refine D8 6 [0,1,2,3,4,5,6,7,8,9] [(Ak w),(BV z c),(Zu z c),(BZ z c),(Qe z B1 B2 B3 cR b39),(caps 3 B1),(caps 3 B2),(caps 3 B3),(Dp z n17),(TR c n43)] rfl rfl ?_
   refine CV ?_
   refine BR [3,2] [(BN z),(2,i6 ((whole2 c).e))] ?_
   refine GZ <| JA <| AX [.at 2,.at 2] [Qb (z+1),Qb (z+1)] (.tuple #[i6 ((whole2 c).e),.agg #[i6 ((whole2 c).Af.First),i6 ((whole2 c).Af.Second)]]) ⟨rfl,rfl,Ag⟩ ?_
   intro w46 hw46
   exact⟨congrArg (fun t:Ai=>Ending.returned (.tuple #[i6 t.e,.agg #[i6 t.Af.First,i6 t.Af.Second]])) ((MW (xs:=answers c) (k:=k) (by rw[GL];omega) hf (by rw[ha];exact fun x=>h45 (EI.2 x))).trans ha).symm,BC hw46⟩
  ·refine I4 (base:=z) (e:=109) (sz:=1) (cells:=(fun v:Value=>[v])) (a:=aR) (n:=((asks (z+2) B1 B2 B3).length)) (cap:=cR) (xs:=(asks (z+2) B1 B2 B3)) 4 (by omega) (fun b47 hg48 hb49 => ?_)
   subst hg48
   refine A7 5 1 [] [[(oi k),(oa [.via 4 (.func (.func 65) #[] #[pt (z+2)])]),o0],[o0]] [Ed k,k<(asks (z+2) B1 B2 B3).length,Dt,∀ w',Ch.holds (PQ z B1 B2 B3 cR b47) w'→w'.cell? ⟨b47,0+k,none⟩=some (.func (.func 65) #[] #[pt (z+2)])] [(BN z),(Rl z B1 B2 B3 cR b47),(Dl z B1 B2 B3),(10,Ac k),(14,.func (.func 65) #[] #[pt (z+2)])] rfl ⟨rfl,(by omega),rfl,FH (sz:=1) (j:=k) (k:=0) (fun _=>rfl) (by omega) (congrArg some hv),Ag⟩ ?_
   refine Bz 65 #[pt (z+2)] (some 15) (.agg (Ai.arr (FU c))) (fun w50 hw50=>Z4 w50 (hL.ext (hw50.ext rfl)) c (hc.ext (hw50.ext rfl) (fun _ h=>h)) (z+2) (JY hw50 (i:=3))) (fun n51 (hn52:n29≤n51) => ?_)
   refine FD 3 0 [] [[o0,(an 3 9)]] [Qb n51,Qb n51,Qb n51] [(BN z),(Rl z B1 B2 B3 cR b47),(Dl z B1 B2 B3),(10,Ac k),(6,pt n51)] ⟨w,n51+1,[(Ak w),(BV z c),(CX z),(BZ z c),(PQ z B1 B2 B3 cR b47),(caps 3 B1),(caps 3 B2),(caps 3 B3),(Dp z n17),(TI c n51)]⟩ rfl ⟨rfl,rfl,rfl,Ag⟩ ?_
   by_cases h53:(((FU c).e:Int)==(0:Int)&&((((FU c).Af.First:Int)==(0:Int)&&(((FU c).Af.Second:Int)==(0:Int)&&true))&&true))=true
   ·refine A7 9 0 [0] [[(an 3 9),(oa [.via 0 (i6 0),.via 0 (i6 0),.via 0 (i6 0)]),⟨.seq true,none⟩],[(ov (i6 ((k+1:Nat):Int))),o0]] [Qb n51,Qb n51,Qb n51,Old w 0 0 (i6 0),Old w 0 1 (i6 0),Old w 0 2 (i6 0),(((FU c).e:Int)==(0:Int)&&((((FU c).Af.First:Int)==(0:Int)&&(((FU c).Af.Second:Int)==(0:Int)&&true))&&true))=true,Wr ((k:Int)+1) (((k+1:Nat):Int))] [(BN z),(Rl z B1 B2 B3 cR b47),(Dl z B1 B2 B3),(Hl k)] rfl ⟨rfl,rfl,rfl,Aq (hL.2 0 _ rfl),Aq (hL.2 1 _ rfl),Aq (hL.2 2 _ rfl),h53,CU,Ag⟩ ?_
    refine Cc [0,1,2,3,4,5,6,7,8] [(Ak w),(BV z c),(CX z),(BZ z c),(PQ z B1 B2 B3 cR b47),(caps 3 B1),(caps 3 B2),(caps 3 B3),(Dp z n17)] rfl rfl ?_
    refine BR [3,8,9,10] [(BN z),(Rl z B1 B2 B3 cR b47),(Dl z B1 B2 B3),(Hl k)] ?_
    refine Cj (fun a w' hs=>⟨(asks (z+2) B1 B2 B3).length - (k+1),by omega,(n51+1),(k+1),(some ⟨b47,0,none⟩),cR,rfl,by omega,by omega,Gj hf (by rw[ha];exact EI.1 h53),hs⟩)
   refine A7 5 0 [1] [[(an 3 9),(oa [.via 0 (i6 0),.via 0 (i6 0),.via 0 (i6 0)]),⟨.seq false,none⟩]] [Qb n51,Qb n51,Qb n51,Old w 0 0 (i6 0),Old w 0 1 (i6 0),Old w 0 2 (i6 0),(((FU c).e:Int)==(0:Int)&&((((FU c).Af.First:Int)==(0:Int)&&(((FU c).Af.Second:Int)==(0:Int)&&true))&&true))=false] [(BN z),(Rl z B1 B2 B3 cR b47),(Dl z B1 B2 B3),(10,Ac k),(6,pt n51),(18,.bool true)] rfl ⟨rfl,rfl,rfl,Aq (hL.2 0 _ rfl),Aq (hL.2 1 _ rfl),Aq (hL.2 2 _ rfl),(Bool.eq_false_iff.2 h53),Ag⟩ ?_
   refine DN 5 [0,1,2,3,4,5,6,7,8,9] [(Ak w),(BV z c),(CX z),(BZ z c),(PQ z B1 B2 B3 cR b47),(caps 3 B1),(caps 3 B2),(caps 3 B3),(Dp z n17),(TI c n51)] rfl rfl ?_
   refine Dc [(0,o0),(1,(a1 9)),(2,o0),(3,(an 2 9)),(4,o0)] [3,22,2] [Qb n51,Qb n51,Qb n51] (Dj 5 1) [(BN z),(22,.agg #[i6 ((FU c).Af.First),i6 ((FU c).Af.Second)]),(2,i6 ((FU c).e))] ⟨rfl,rfl,rfl,Ag⟩ ?_
   refine Bo 5 ?_
   refine Bq (an 2 2) [3,2] [Qb (z+1),Qb (z+1)] [(BN z),(2,i6 ((FU c).e))] ⟨w,n51+1,[(Ak w),(BV z c),(YV z c),(BZ z c),(PQ z B1 B2 B3 cR b47),(caps 3 B1),(caps 3 B2),(caps 3 B3),(Dp z n17),(TI c n51)]⟩ [] ⟨rfl,rfl,Ag⟩ (.inl rfl) ?_
   refine D8 6 [0,1,2,3,4,5,6,7,8,9] [(Ak w),(BV z c),(YV z c),(BZ z c),(PQ z B1 B2 B3 cR b47),(caps 3 B1),(caps 3 B2),(caps 3 B3),(Dp z n17),(TI c n51)] rfl rfl ?_
   refine CV ?_
   refine BR [3,2] [(BN z),(2,i6 ((FU c).e))] ?_
   refine GZ <| JA <| AX [.at 2,.at 2] [Qb (z+1),Qb (z+1)] (.tuple #[i6 ((FU c).e),.agg #[i6 ((FU c).Af.First),i6 ((FU c).Af.Second)]]) ⟨rfl,rfl,Ag⟩ ?_
   intro w54 hw54
   exact⟨congrArg (fun t:Ai=>Ending.returned (.tuple #[i6 t.e,.agg #[i6 t.Af.First,i6 t.Af.Second]])) ((MW (xs:=answers c) (k:=k) (by rw[GL];omega) hf (by rw[ha];exact fun x=>h53 (EI.2 x))).trans ha).symm,BC hw54⟩
  ·refine I4 (base:=z) (e:=109) (sz:=1) (cells:=(fun v:Value=>[v])) (a:=aR) (n:=((asks (z+2) B1 B2 B3).length)) (cap:=cR) (xs:=(asks (z+2) B1 B2 B3)) 4 (by omega) (fun b55 hg56 hb57 => ?_)
   subst hg56
   refine A7 5 1 [] [[(oi k),(oa [.via 4 (.func (.func 66) #[] #[pt (z+2)])]),o0],[o0]] [Ed k,k<(asks (z+2) B1 B2 B3).length,Dt,∀ w',Ch.holds (PH z B1 B2 B3 cR b55) w'→w'.cell? ⟨b55,0+k,none⟩=some (.func (.func 66) #[] #[pt (z+2)])] [(BN z),(QM z B1 B2 B3 cR b55),(Dl z B1 B2 B3),(10,Ac k),(14,.func (.func 66) #[] #[pt (z+2)])] rfl ⟨rfl,(by omega),rfl,FH (sz:=1) (j:=k) (k:=0) (fun _=>rfl) (by omega) (congrArg some hv),Ag⟩ ?_
   refine Bz 66 #[pt (z+2)] (some 15) (.agg (Ai.arr (FV c))) (fun w58 hw58=>Zab w58 (hL.ext (hw58.ext rfl)) c (hc.ext (hw58.ext rfl) (fun _ h=>h)) (z+2) (JY hw58 (i:=3))) (fun n59 (hn60:n29≤n59) => ?_)
   refine FD 3 0 [] [[o0,(an 3 9)]] [Qb n59,Qb n59,Qb n59] [(BN z),(QM z B1 B2 B3 cR b55),(Dl z B1 B2 B3),(10,Ac k),(6,pt n59)] ⟨w,n59+1,[(Ak w),(BV z c),(CX z),(BZ z c),(PH z B1 B2 B3 cR b55),(caps 3 B1),(caps 3 B2),(caps 3 B3),(Dp z n17),(TJ c n59)]⟩ rfl ⟨rfl,rfl,rfl,Ag⟩ ?_
   by_cases h61:(((FV c).e:Int)==(0:Int)&&((((FV c).Af.First:Int)==(0:Int)&&(((FV c).Af.Second:Int)==(0:Int)&&true))&&true))=true
   ·refine A7 9 0 [0] [[(an 3 9),(oa [.via 0 (i6 0),.via 0 (i6 0),.via 0 (i6 0)]),⟨.seq true,none⟩],[(ov (i6 ((k+1:Nat):Int))),o0]] [Qb n59,Qb n59,Qb n59,Old w 0 0 (i6 0),Old w 0 1 (i6 0),Old w 0 2 (i6 0),(((FV c).e:Int)==(0:Int)&&((((FV c).Af.First:Int)==(0:Int)&&(((FV c).Af.Second:Int)==(0:Int)&&true))&&true))=true,Wr ((k:Int)+1) (((k+1:Nat):Int))] [(BN z),(QM z B1 B2 B3 cR b55),(Dl z B1 B2 B3),(Hl k)] rfl ⟨rfl,rfl,rfl,Aq (hL.2 0 _ rfl),Aq (hL.2 1 _ rfl),Aq (hL.2 2 _ rfl),h61,CU,Ag⟩ ?_
    refine Cc [0,1,2,3,4,5,6,7,8] [(Ak w),(BV z c),(CX z),(BZ z c),(PH z B1 B2 B3 cR b55),(caps 3 B1),(caps 3 B2),(caps 3 B3),(Dp z n17)] rfl rfl ?_
    refine BR [3,8,9,10] [(BN z),(QM z B1 B2 B3 cR b55),(Dl z B1 B2 B3),(Hl k)] ?_
    refine Cj (fun a w' hs=>⟨(asks (z+2) B1 B2 B3).length - (k+1),by omega,(n59+1),(k+1),(some ⟨b55,0,none⟩),cR,rfl,by omega,by omega,Gj hf (by rw[ha];exact EI.1 h61),hs⟩)
   refine A7 5 0 [1] [[(an 3 9),(oa [.via 0 (i6 0),.via 0 (i6 0),.via 0 (i6 0)]),⟨.seq false,none⟩]] [Qb n59,Qb n59,Qb n59,Old w 0 0 (i6 0),Old w 0 1 (i6 0),Old w 0 2 (i6 0),(((FV c).e:Int)==(0:Int)&&((((FV c).Af.First:Int)==(0:Int)&&(((FV c).Af.Second:Int)==(0:Int)&&true))&&true))=false] [(BN z),(QM z B1 B2 B3 cR b55),(Dl z B1 B2 B3),(10,Ac k),(6,pt n59),(18,.bool true)] rfl ⟨rfl,rfl,rfl,Aq (hL.2 0 _ rfl),Aq (hL.2 1 _ rfl),Aq (hL.2 2 _ rfl),(Bool.eq_false_iff.2 h61),Ag⟩ ?_
   refine DN 5 [0,1,2,3,4,5,6,7,8,9] [(Ak w),(BV z c),(CX z),(BZ z c),(PH z B1 B2 B3 cR b55),(caps 3 B1),(caps 3 B2),(caps 3 B3),(Dp z n17),(TJ c n59)] rfl rfl ?_
   refine Dc [(0,o0),(1,(a1 9)),(2,o0),(3,(an 2 9)),(4,o0)] [3,22,2] [Qb n59,Qb n59,Qb n59] (Dj 5 1) [(BN z),(22,.agg #[i6 ((FV c).Af.First),i6 ((FV c).Af.Second)]),(2,i6 ((FV c).e))] ⟨rfl,rfl,rfl,Ag⟩ ?_
   refine Bo 5 ?_
   refine Bq (an 2 2) [3,2] [Qb (z+1),Qb (z+1)] [(BN z),(2,i6 ((FV c).e))] ⟨w,n59+1,[(Ak w),(BV z c),(Zt z c),(BZ z c),(PH z B1 B2 B3 cR b55),(caps 3 B1),(caps 3 B2),(caps 3 B3),(Dp z n17),(TJ c n59)]⟩ [] ⟨rfl,rfl,Ag⟩ (.inl rfl) ?_
   refine D8 6 [0,1,2,3,4,5,6,7,8,9] [(Ak w),(BV z c),(Zt z c),(BZ z c),(PH z B1 B2 B3 cR b55),(caps 3 B1),(caps 3 B2),(caps 3 B3),(Dp z n17),(TJ c n59)] rfl rfl ?_
   refine CV ?_
   refine BR [3,2] [(BN z),(2,i6 ((FV c).e))] ?_
   refine GZ <| JA <| AX [.at 2,.at 2] [Qb (z+1),Qb (z+1)] (.tuple #[i6 ((FV c).e),.agg #[i6 ((FV c).Af.First),i6 ((FV c).Af.Second)]]) ⟨rfl,rfl,Ag⟩ ?_
   intro w62 hw62
   exact⟨congrArg (fun t:Ai=>Ending.returned (.tuple #[i6 t.e,.agg #[i6 t.Af.First,i6 t.Af.Second]])) ((MW (xs:=answers c) (k:=k) (by rw[GL];omega) hf (by rw[ha];exact fun x=>h61 (EI.2 x))).trans ha).symm,BC hw62⟩
  ·refine I4 (base:=z) (e:=109) (sz:=1) (cells:=(fun v:Value=>[v])) (a:=aR) (n:=((asks (z+2) B1 B2 B3).length)) (cap:=cR) (xs:=(asks (z+2) B1 B2 B3)) 4 (by omega) (fun b63 hg64 hb65 => ?_)
   subst hg64
   refine A7 5 1 [] [[(oi k),(oa [.via 4 (.func (.func 67) #[] #[pt (z+2)])]),o0],[o0]] [Ed k,k<(asks (z+2) B1 B2 B3).length,Dt,∀ w',Ch.holds (PV z B1 B2 B3 cR b63) w'→w'.cell? ⟨b63,0+k,none⟩=some (.func (.func 67) #[] #[pt (z+2)])] [(BN z),(QJ z B1 B2 B3 cR b63),(Dl z B1 B2 B3),(10,Ac k),(14,.func (.func 67) #[] #[pt (z+2)])] rfl ⟨rfl,(by omega),rfl,FH (sz:=1) (j:=k) (k:=0) (fun _=>rfl) (by omega) (congrArg some hv),Ag⟩ ?_
   refine Bz 67 #[pt (z+2)] (some 15) (.agg (Ai.arr (FC c))) (fun w66 hw66=>Zz w66 (hL.ext (hw66.ext rfl)) c (hc.ext (hw66.ext rfl) (fun _ h=>h)) (z+2) (JY hw66 (i:=3))) (fun n67 (hn68:n29≤n67) => ?_)
   refine FD 3 0 [] [[o0,(an 3 9)]] [Qb n67,Qb n67,Qb n67] [(BN z),(QJ z B1 B2 B3 cR b63),(Dl z B1 B2 B3),(10,Ac k),(6,pt n67)] ⟨w,n67+1,[(Ak w),(BV z c),(CX z),(BZ z c),(PV z B1 B2 B3 cR b63),(caps 3 B1),(caps 3 B2),(caps 3 B3),(Dp z n17),(Tz c n67)]⟩ rfl ⟨rfl,rfl,rfl,Ag⟩ ?_
   by_cases h69:(((FC c).e:Int)==(0:Int)&&((((FC c).Af.First:Int)==(0:Int)&&(((FC c).Af.Second:Int)==(0:Int)&&true))&&true))=true
   ·refine A7 9 0 [0] [[(an 3 9),(oa [.via 0 (i6 0),.via 0 (i6 0),.via 0 (i6 0)]),⟨.seq true,none⟩],[(ov (i6 ((k+1:Nat):Int))),o0]] [Qb n67,Qb n67,Qb n67,Old w 0 0 (i6 0),Old w 0 1 (i6 0),Old w 0 2 (i6 0),(((FC c).e:Int)==(0:Int)&&((((FC c).Af.First:Int)==(0:Int)&&(((FC c).Af.Second:Int)==(0:Int)&&true))&&true))=true,Wr ((k:Int)+1) (((k+1:Nat):Int))] [(BN z),(QJ z B1 B2 B3 cR b63),(Dl z B1 B2 B3),(Hl k)] rfl ⟨rfl,rfl,rfl,Aq (hL.2 0 _ rfl),Aq (hL.2 1 _ rfl),Aq (hL.2 2 _ rfl),h69,CU,Ag⟩ ?_
    refine Cc [0,1,2,3,4,5,6,7,8] [(Ak w),(BV z c),(CX z),(BZ z c),(PV z B1 B2 B3 cR b63),(caps 3 B1),(caps 3 B2),(caps 3 B3),(Dp z n17)] rfl rfl ?_
    refine BR [3,8,9,10] [(BN z),(QJ z B1 B2 B3 cR b63),(Dl z B1 B2 B3),(Hl k)] ?_
    refine Cj (fun a w' hs=>⟨(asks (z+2) B1 B2 B3).length - (k+1),by omega,(n67+1),(k+1),(some ⟨b63,0,none⟩),cR,rfl,by omega,by omega,Gj hf (by rw[ha];exact EI.1 h69),hs⟩)
   refine A7 5 0 [1] [[(an 3 9),(oa [.via 0 (i6 0),.via 0 (i6 0),.via 0 (i6 0)]),⟨.seq false,none⟩]] [Qb n67,Qb n67,Qb n67,Old w 0 0 (i6 0),Old w 0 1 (i6 0),Old w 0 2 (i6 0),(((FC c).e:Int)==(0:Int)&&((((FC c).Af.First:Int)==(0:Int)&&(((FC c).Af.Second:Int)==(0:Int)&&true))&&true))=false] [(BN z),(QJ z B1 B2 B3 cR b63),(Dl z B1 B2 B3),(10,Ac k),(6,pt n67),(18,.bool true)] rfl ⟨rfl,rfl,rfl,Aq (hL.2 0 _ rfl),Aq (hL.2 1 _ rfl),Aq (hL.2 2 _ rfl),(Bool.eq_false_iff.2 h69),Ag⟩ ?_
   refine DN 5 [0,1,2,3,4,5,6,7,8,9] [(Ak w),(BV z c),(CX z),(BZ z c),(PV z B1 B2 B3 cR b63),(caps 3 B1),(caps 3 B2),(caps 3 B3),(Dp z n17),(Tz c n67)] rfl rfl ?_
   refine Dc [(0,o0),(1,(a1 9)),(2,o0),(3,(an 2 9)),(4,o0)] [3,22,2] [Qb n67,Qb n67,Qb n67] (Dj 5 1) [(BN z),(22,.agg #[i6 ((FC c).Af.First),i6 ((FC c).Af.Second)]),(2,i6 ((FC c).e))] ⟨rfl,rfl,rfl,Ag⟩ ?_
   refine Bo 5 ?_
   refine Bq (an 2 2) [3,2] [Qb (z+1),Qb (z+1)] [(BN z),(2,i6 ((FC c).e))] ⟨w,n67+1,[(Ak w),(BV z c),(XO z c),(BZ z c),(PV z B1 B2 B3 cR b63),(caps 3 B1),(caps 3 B2),(caps 3 B3),(Dp z n17),(Tz c n67)]⟩ [] ⟨rfl,rfl,Ag⟩ (.inl rfl) ?_
   refine D8 6 [0,1,2,3,4,5,6,7,8,9] [(Ak w),(BV z c),(XO z c),(BZ z c),(PV z B1 B2 B3 cR b63),(caps 3 B1),(caps 3 B2),(caps 3 B3),(Dp z n17),(Tz c n67)] rfl rfl ?_
   refine CV ?_
   refine BR [3,2] [(BN z),(2,i6 ((FC c).e))] ?_
   refine GZ <| JA <| AX [.at 2,.at 2] [Qb (z+1),Qb (z+1)] (.tuple #[i6 ((FC c).e),.agg #[i6 ((FC c).Af.First),i6 ((FC c).Af.Second)]]) ⟨rfl,rfl,Ag⟩ ?_
   intro w70 hw70
   exact⟨congrArg (fun t:Ai=>Ending.returned (.tuple #[i6 t.e,.agg #[i6 t.Af.First,i6 t.Af.Second]])) ((MW (xs:=answers c) (k:=k) (by rw[GL];omega) hf (by rw[ha];exact fun x=>h69 (EI.2 x))).trans ha).symm,BC hw70⟩
  ·have hFr:=Wh hf (by omega)
   have hpf:∀ q,q<p→DK c q=BU:=fun q hq=>Vu hf (by omega) (by omega)
   refine I4 (base:=z) (e:=109) (sz:=1) (cells:=(fun v:Value=>[v])) (a:=aR) (n:=((asks (z+2) B1 B2 B3).length)) (cap:=cR) (xs:=(asks (z+2) B1 B2 B3)) 4 (by omega) (fun b71 hg72 hb73 => ?_)
   subst hg72
   refine A7 5 1 [] [[(oi k),(oa [.via 4 (.func (.func 68) #[] #[pt (z+2),pt b])]),o0],[o0]] [Ed k,k<(asks (z+2) B1 B2 B3).length,Dt,∀ w',Ch.holds (Qh z B1 B2 B3 cR b71) w'→w'.cell? ⟨b71,0+k,none⟩=some (.func (.func 68) #[] #[pt (z+2),pt b])] [(BN z),(QZ z B1 B2 B3 cR b71),(Dl z B1 B2 B3),(10,Ac k),(14,.func (.func 68) #[] #[pt (z+2),pt b])] rfl ⟨rfl,(by omega),rfl,FH (sz:=1) (j:=k) (k:=0) (fun _=>rfl) (by omega) (congrArg some hv),Ag⟩ ?_
   refine Bz 68 #[pt (z+2),pt b] (some 15) (.agg (Ai.arr (DK c p))) (fun w74 hw74=>ZR w74 (hL.ext (hw74.ext rfl)) c (hc.ext (hw74.ext rfl) (fun _ h=>h)) (z+2) (JY hw74 (i:=3)) b p (Rw hw74 hb (i:=5)) hp hFr hpf) (fun n75 (hn76:n29≤n75) => ?_)
   refine FD 3 0 [] [[o0,(an 3 9)]] [Qb n75,Qb n75,Qb n75] [(BN z),(QZ z B1 B2 B3 cR b71),(Dl z B1 B2 B3),(10,Ac k),(6,pt n75)] ⟨w,n75+1,[(Ak w),(BV z c),(CX z),(BZ z c),(Qh z B1 B2 B3 cR b71),(caps 3 B1),(caps 3 B2),(caps 3 B3),(Dp z n17),(Tc c p n75)]⟩ rfl ⟨rfl,rfl,rfl,Ag⟩ ?_
   by_cases h77:(((DK c p).e:Int)==(0:Int)&&((((DK c p).Af.First:Int)==(0:Int)&&(((DK c p).Af.Second:Int)==(0:Int)&&true))&&true))=true
   ·refine A7 9 0 [0] [[(an 3 9),(oa [.via 0 (i6 0),.via 0 (i6 0),.via 0 (i6 0)]),⟨.seq true,none⟩],[(ov (i6 ((k+1:Nat):Int))),o0]] [Qb n75,Qb n75,Qb n75,Old w 0 0 (i6 0),Old w 0 1 (i6 0),Old w 0 2 (i6 0),(((DK c p).e:Int)==(0:Int)&&((((DK c p).Af.First:Int)==(0:Int)&&(((DK c p).Af.Second:Int)==(0:Int)&&true))&&true))=true,Wr ((k:Int)+1) (((k+1:Nat):Int))] [(BN z),(QZ z B1 B2 B3 cR b71),(Dl z B1 B2 B3),(Hl k)] rfl ⟨rfl,rfl,rfl,Aq (hL.2 0 _ rfl),Aq (hL.2 1 _ rfl),Aq (hL.2 2 _ rfl),h77,CU,Ag⟩ ?_
    refine Cc [0,1,2,3,4,5,6,7,8] [(Ak w),(BV z c),(CX z),(BZ z c),(Qh z B1 B2 B3 cR b71),(caps 3 B1),(caps 3 B2),(caps 3 B3),(Dp z n17)] rfl rfl ?_
    refine BR [3,8,9,10] [(BN z),(QZ z B1 B2 B3 cR b71),(Dl z B1 B2 B3),(Hl k)] ?_
    refine Cj (fun a w' hs=>⟨(asks (z+2) B1 B2 B3).length - (k+1),by omega,(n75+1),(k+1),(some ⟨b71,0,none⟩),cR,rfl,by omega,by omega,Gj hf (by rw[ha];exact EI.1 h77),hs⟩)
   refine A7 5 0 [1] [[(an 3 9),(oa [.via 0 (i6 0),.via 0 (i6 0),.via 0 (i6 0)]),⟨.seq false,none⟩]] [Qb n75,Qb n75,Qb n75,Old w 0 0 (i6 0),Old w 0 1 (i6 0),Old w 0 2 (i6 0),(((DK c p).e:Int)==(0:Int)&&((((DK c p).Af.First:Int)==(0:Int)&&(((DK c p).Af.Second:Int)==(0:Int)&&true))&&true))=false] [(BN z),(QZ z B1 B2 B3 cR b71),(Dl z B1 B2 B3),(10,Ac k),(6,pt n75),(18,.bool true)] rfl ⟨rfl,rfl,rfl,Aq (hL.2 0 _ rfl),Aq (hL.2 1 _ rfl),Aq (hL.2 2 _ rfl),(Bool.eq_false_iff.2 h77),Ag⟩ ?_
   refine DN 5 [0,1,2,3,4,5,6,7,8,9] [(Ak w),(BV z c),(CX z),(BZ z c),(Qh z B1 B2 B3 cR b71),(caps 3 B1),(caps 3 B2),(caps 3 B3),(Dp z n17),(Tc c p n75)] rfl rfl ?_
   refine Dc [(0,o0),(1,(a1 9)),(2,o0),(3,(an 2 9)),(4,o0)] [3,22,2] [Qb n75,Qb n75,Qb n75] (Dj 5 1) [(BN z),(22,.agg #[i6 ((DK c p).Af.First),i6 ((DK c p).Af.Second)]),(2,i6 ((DK c p).e))] ⟨rfl,rfl,rfl,Ag⟩ ?_
   refine Bo 5 ?_
   refine Bq (an 2 2) [3,2] [Qb (z+1),Qb (z+1)] [(BN z),(2,i6 ((DK c p).e))] ⟨w,n75+1,[(Ak w),(BV z c),(Zc z c p),(BZ z c),(Qh z B1 B2 B3 cR b71),(caps 3 B1),(caps 3 B2),(caps 3 B3),(Dp z n17),(Tc c p n75)]⟩ [] ⟨rfl,rfl,Ag⟩ (.inl rfl) ?_
   refine D8 6 [0,1,2,3,4,5,6,7,8,9] [(Ak w),(BV z c),(Zc z c p),(BZ z c),(Qh z B1 B2 B3 cR b71),(caps 3 B1),(caps 3 B2),(caps 3 B3),(Dp z n17),(Tc c p n75)] rfl rfl ?_
   refine CV ?_
   refine BR [3,2] [(BN z),(2,i6 ((DK c p).e))] ?_
   refine GZ <| JA <| AX [.at 2,.at 2] [Qb (z+1),Qb (z+1)] (.tuple #[i6 ((DK c p).e),.agg #[i6 ((DK c p).Af.First),i6 ((DK c p).Af.Second)]]) ⟨rfl,rfl,Ag⟩ ?_
   intro w78 hw78
   exact⟨congrArg (fun t:Ai=>Ending.returned (.tuple #[i6 t.e,.agg #[i6 t.Af.First,i6 t.Af.Second]])) ((MW (xs:=answers c) (k:=k) (by rw[GL];omega) hf (by rw[ha];exact fun x=>h77 (EI.2 x))).trans ha).symm,BC hw78⟩
  ·have hm:=ZW hf (by omega);have hq:=ZG hf (by omega)
   refine I4 (base:=z) (e:=109) (sz:=1) (cells:=(fun v:Value=>[v])) (a:=aR) (n:=((asks (z+2) B1 B2 B3).length)) (cap:=cR) (xs:=(asks (z+2) B1 B2 B3)) 4 (by omega) (fun b79 hg80 hb81 => ?_)
   subst hg80
   refine A7 5 1 [] [[(oi k),(oa [.via 4 (.func (.func 70) #[] #[pt (z+2),pt b])]),o0],[o0]] [Ed k,k<(asks (z+2) B1 B2 B3).length,Dt,∀ w',Ch.holds (PL z B1 B2 B3 cR b79) w'→w'.cell? ⟨b79,0+k,none⟩=some (.func (.func 70) #[] #[pt (z+2),pt b])] [(BN z),(QF z B1 B2 B3 cR b79),(Dl z B1 B2 B3),(10,Ac k),(14,.func (.func 70) #[] #[pt (z+2),pt b])] rfl ⟨rfl,(by omega),rfl,FH (sz:=1) (j:=k) (k:=0) (fun _=>rfl) (by omega) (congrArg some hv),Ag⟩ ?_
   refine Bz 70 #[pt (z+2),pt b] (some 15) (.agg (Ai.arr (DD c p))) (fun w82 hw82=>ZP w82 (hL.ext (hw82.ext rfl)) c (hc.ext (hw82.ext rfl) (fun _ h=>h)) (z+2) (JY hw82 (i:=3)) b p (Rw hw82 hb (i:=6)) hp hm hq) (fun n83 (hn84:n29≤n83) => ?_)
   refine FD 3 0 [] [[o0,(an 3 9)]] [Qb n83,Qb n83,Qb n83] [(BN z),(QF z B1 B2 B3 cR b79),(Dl z B1 B2 B3),(10,Ac k),(6,pt n83)] ⟨w,n83+1,[(Ak w),(BV z c),(CX z),(BZ z c),(PL z B1 B2 B3 cR b79),(caps 3 B1),(caps 3 B2),(caps 3 B3),(Dp z n17),(TW c p n83)]⟩ rfl ⟨rfl,rfl,rfl,Ag⟩ ?_
   by_cases h85:(((DD c p).e:Int)==(0:Int)&&((((DD c p).Af.First:Int)==(0:Int)&&(((DD c p).Af.Second:Int)==(0:Int)&&true))&&true))=true
   ·refine A7 9 0 [0] [[(an 3 9),(oa [.via 0 (i6 0),.via 0 (i6 0),.via 0 (i6 0)]),⟨.seq true,none⟩],[(ov (i6 ((k+1:Nat):Int))),o0]] [Qb n83,Qb n83,Qb n83,Old w 0 0 (i6 0),Old w 0 1 (i6 0),Old w 0 2 (i6 0),(((DD c p).e:Int)==(0:Int)&&((((DD c p).Af.First:Int)==(0:Int)&&(((DD c p).Af.Second:Int)==(0:Int)&&true))&&true))=true,Wr ((k:Int)+1) (((k+1:Nat):Int))] [(BN z),(QF z B1 B2 B3 cR b79),(Dl z B1 B2 B3),(Hl k)] rfl ⟨rfl,rfl,rfl,Aq (hL.2 0 _ rfl),Aq (hL.2 1 _ rfl),Aq (hL.2 2 _ rfl),h85,CU,Ag⟩ ?_
    refine Cc [0,1,2,3,4,5,6,7,8] [(Ak w),(BV z c),(CX z),(BZ z c),(PL z B1 B2 B3 cR b79),(caps 3 B1),(caps 3 B2),(caps 3 B3),(Dp z n17)] rfl rfl ?_
    refine BR [3,8,9,10] [(BN z),(QF z B1 B2 B3 cR b79),(Dl z B1 B2 B3),(Hl k)] ?_
    refine Cj (fun a w' hs=>⟨(asks (z+2) B1 B2 B3).length - (k+1),by omega,(n83+1),(k+1),(some ⟨b79,0,none⟩),cR,rfl,by omega,by omega,Gj hf (by rw[ha];exact EI.1 h85),hs⟩)
   refine A7 5 0 [1] [[(an 3 9),(oa [.via 0 (i6 0),.via 0 (i6 0),.via 0 (i6 0)]),⟨.seq false,none⟩]] [Qb n83,Qb n83,Qb n83,Old w 0 0 (i6 0),Old w 0 1 (i6 0),Old w 0 2 (i6 0),(((DD c p).e:Int)==(0:Int)&&((((DD c p).Af.First:Int)==(0:Int)&&(((DD c p).Af.Second:Int)==(0:Int)&&true))&&true))=false] [(BN z),(QF z B1 B2 B3 cR b79),(Dl z B1 B2 B3),(10,Ac k),(6,pt n83),(18,.bool true)] rfl ⟨rfl,rfl,rfl,Aq (hL.2 0 _ rfl),Aq (hL.2 1 _ rfl),Aq (hL.2 2 _ rfl),(Bool.eq_false_iff.2 h85),Ag⟩ ?_
   refine DN 5 [0,1,2,3,4,5,6,7,8,9] [(Ak w),(BV z c),(CX z),(BZ z c),(PL z B1 B2 B3 cR b79),(caps 3 B1),(caps 3 B2),(caps 3 B3),(Dp z n17),(TW c p n83)] rfl rfl ?_
   refine Dc [(0,o0),(1,(a1 9)),(2,o0),(3,(an 2 9)),(4,o0)] [3,22,2] [Qb n83,Qb n83,Qb n83] (Dj 5 1) [(BN z),(22,.agg #[i6 ((DD c p).Af.First),i6 ((DD c p).Af.Second)]),(2,i6 ((DD c p).e))] ⟨rfl,rfl,rfl,Ag⟩ ?_
   refine Bo 5 ?_
   refine Bq (an 2 2) [3,2] [Qb (z+1),Qb (z+1)] [(BN z),(2,i6 ((DD c p).e))] ⟨w,n83+1,[(Ak w),(BV z c),(Zi z c p),(BZ z c),(PL z B1 B2 B3 cR b79),(caps 3 B1),(caps 3 B2),(caps 3 B3),(Dp z n17),(TW c p n83)]⟩ [] ⟨rfl,rfl,Ag⟩ (.inl rfl) ?_
   refine D8 6 [0,1,2,3,4,5,6,7,8,9] [(Ak w),(BV z c),(Zi z c p),(BZ z c),(PL z B1 B2 B3 cR b79),(caps 3 B1),(caps 3 B2),(caps 3 B3),(Dp z n17),(TW c p n83)] rfl rfl ?_
   refine CV ?_
   refine BR [3,2] [(BN z),(2,i6 ((DD c p).e))] ?_
   refine GZ <| JA <| AX [.at 2,.at 2] [Qb (z+1),Qb (z+1)] (.tuple #[i6 ((DD c p).e),.agg #[i6 ((DD c p).Af.First),i6 ((DD c p).Af.Second)]]) ⟨rfl,rfl,Ag⟩ ?_
   intro w86 hw86
   exact⟨congrArg (fun t:Ai=>Ending.returned (.tuple #[i6 t.e,.agg #[i6 t.Af.First,i6 t.Af.Second]])) ((MW (xs:=answers c) (k:=k) (by rw[GL];omega) hf (by rw[ha];exact fun x=>h85 (EI.2 x))).trans ha).symm,BC hw86⟩
  ·refine I4 (base:=z) (e:=109) (sz:=1) (cells:=(fun v:Value=>[v])) (a:=aR) (n:=((asks (z+2) B1 B2 B3).length)) (cap:=cR) (xs:=(asks (z+2) B1 B2 B3)) 4 (by omega) (fun b87 hg88 hb89 => ?_)
   subst hg88
   refine A7 5 1 [] [[(oi k),(oa [.via 4 (.func (.func 72) #[] #[pt (z+2),pt b])]),o0],[o0]] [Ed k,k<(asks (z+2) B1 B2 B3).length,Dt,∀ w',Ch.holds (PS z B1 B2 B3 cR b87) w'→w'.cell? ⟨b87,0+k,none⟩=some (.func (.func 72) #[] #[pt (z+2),pt b])] [(BN z),(QG z B1 B2 B3 cR b87),(Dl z B1 B2 B3),(10,Ac k),(14,.func (.func 72) #[] #[pt (z+2),pt b])] rfl ⟨rfl,(by omega),rfl,FH (sz:=1) (j:=k) (k:=0) (fun _=>rfl) (by omega) (congrArg some hv),Ag⟩ ?_
   refine Bz 72 #[pt (z+2),pt b] (some 15) (.agg (Ai.arr (ER c p))) (fun w90 hw90=>ZL w90 (hL.ext (hw90.ext rfl)) c (hc.ext (hw90.ext rfl) (fun _ h=>h)) (z+2) (JY hw90 (i:=3)) b p (Rw hw90 hb (i:=7)) hp) (fun n91 (hn92:n29≤n91) => ?_)
   refine FD 3 0 [] [[o0,(an 3 9)]] [Qb n91,Qb n91,Qb n91] [(BN z),(QG z B1 B2 B3 cR b87),(Dl z B1 B2 B3),(10,Ac k),(6,pt n91)] ⟨w,n91+1,[(Ak w),(BV z c),(CX z),(BZ z c),(PS z B1 B2 B3 cR b87),(caps 3 B1),(caps 3 B2),(caps 3 B3),(Dp z n17),(TK c p n91)]⟩ rfl ⟨rfl,rfl,rfl,Ag⟩ ?_
   by_cases h93:(((ER c p).e:Int)==(0:Int)&&((((ER c p).Af.First:Int)==(0:Int)&&(((ER c p).Af.Second:Int)==(0:Int)&&true))&&true))=true
   ·refine A7 9 0 [0] [[(an 3 9),(oa [.via 0 (i6 0),.via 0 (i6 0),.via 0 (i6 0)]),⟨.seq true,none⟩],[(ov (i6 ((k+1:Nat):Int))),o0]] [Qb n91,Qb n91,Qb n91,Old w 0 0 (i6 0),Old w 0 1 (i6 0),Old w 0 2 (i6 0),(((ER c p).e:Int)==(0:Int)&&((((ER c p).Af.First:Int)==(0:Int)&&(((ER c p).Af.Second:Int)==(0:Int)&&true))&&true))=true,Wr ((k:Int)+1) (((k+1:Nat):Int))] [(BN z),(QG z B1 B2 B3 cR b87),(Dl z B1 B2 B3),(Hl k)] rfl ⟨rfl,rfl,rfl,Aq (hL.2 0 _ rfl),Aq (hL.2 1 _ rfl),Aq (hL.2 2 _ rfl),h93,CU,Ag⟩ ?_
    refine Cc [0,1,2,3,4,5,6,7,8] [(Ak w),(BV z c),(CX z),(BZ z c),(PS z B1 B2 B3 cR b87),(caps 3 B1),(caps 3 B2),(caps 3 B3),(Dp z n17)] rfl rfl ?_
    refine BR [3,8,9,10] [(BN z),(QG z B1 B2 B3 cR b87),(Dl z B1 B2 B3),(Hl k)] ?_
    refine Cj (fun a w' hs=>⟨(asks (z+2) B1 B2 B3).length - (k+1),by omega,(n91+1),(k+1),(some ⟨b87,0,none⟩),cR,rfl,by omega,by omega,Gj hf (by rw[ha];exact EI.1 h93),hs⟩)
   refine A7 5 0 [1] [[(an 3 9),(oa [.via 0 (i6 0),.via 0 (i6 0),.via 0 (i6 0)]),⟨.seq false,none⟩]] [Qb n91,Qb n91,Qb n91,Old w 0 0 (i6 0),Old w 0 1 (i6 0),Old w 0 2 (i6 0),(((ER c p).e:Int)==(0:Int)&&((((ER c p).Af.First:Int)==(0:Int)&&(((ER c p).Af.Second:Int)==(0:Int)&&true))&&true))=false] [(BN z),(QG z B1 B2 B3 cR b87),(Dl z B1 B2 B3),(10,Ac k),(6,pt n91),(18,.bool true)] rfl ⟨rfl,rfl,rfl,Aq (hL.2 0 _ rfl),Aq (hL.2 1 _ rfl),Aq (hL.2 2 _ rfl),(Bool.eq_false_iff.2 h93),Ag⟩ ?_
   refine DN 5 [0,1,2,3,4,5,6,7,8,9] [(Ak w),(BV z c),(CX z),(BZ z c),(PS z B1 B2 B3 cR b87),(caps 3 B1),(caps 3 B2),(caps 3 B3),(Dp z n17),(TK c p n91)] rfl rfl ?_
   refine Dc [(0,o0),(1,(a1 9)),(2,o0),(3,(an 2 9)),(4,o0)] [3,22,2] [Qb n91,Qb n91,Qb n91] (Dj 5 1) [(BN z),(22,.agg #[i6 ((ER c p).Af.First),i6 ((ER c p).Af.Second)]),(2,i6 ((ER c p).e))] ⟨rfl,rfl,rfl,Ag⟩ ?_
   refine Bo 5 ?_
   refine Bq (an 2 2) [3,2] [Qb (z+1),Qb (z+1)] [(BN z),(2,i6 ((ER c p).e))] ⟨w,n91+1,[(Ak w),(BV z c),(YF z c p),(BZ z c),(PS z B1 B2 B3 cR b87),(caps 3 B1),(caps 3 B2),(caps 3 B3),(Dp z n17),(TK c p n91)]⟩ [] ⟨rfl,rfl,Ag⟩ (.inl rfl) ?_
   refine D8 6 [0,1,2,3,4,5,6,7,8,9] [(Ak w),(BV z c),(YF z c p),(BZ z c),(PS z B1 B2 B3 cR b87),(caps 3 B1),(caps 3 B2),(caps 3 B3),(Dp z n17),(TK c p n91)] rfl rfl ?_
   refine CV ?_
   refine BR [3,2] [(BN z),(2,i6 ((ER c p).e))] ?_
   refine GZ <| JA <| AX [.at 2,.at 2] [Qb (z+1),Qb (z+1)] (.tuple #[i6 ((ER c p).e),.agg #[i6 ((ER c p).Af.First),i6 ((ER c p).Af.Second)]]) ⟨rfl,rfl,Ag⟩ ?_
   intro w94 hw94
   exact⟨congrArg (fun t:Ai=>Ending.returned (.tuple #[i6 t.e,.agg #[i6 t.Af.First,i6 t.Af.Second]])) ((MW (xs:=answers c) (k:=k) (by rw[GL];omega) hf (by rw[ha];exact fun x=>h93 (EI.2 x))).trans ha).symm,BC hw94⟩
  have hFr:=Wh hf (by omega)
  have hpf:∀ q,q<c.Aa.xs.length→DK c q=BU:=fun q hq=>Vu hf hq (by omega)
  refine I4 (base:=z) (e:=109) (sz:=1) (cells:=(fun v:Value=>[v])) (a:=aR) (n:=((asks (z+2) B1 B2 B3).length)) (cap:=cR) (xs:=(asks (z+2) B1 B2 B3)) 4 (by omega) (fun b95 hg96 hb97 => ?_)
  subst hg96
  refine A7 5 1 [] [[(oi k),(oa [.via 4 (.func (.func 74) #[] #[pt (z+2)])]),o0],[o0]] [Ed k,k<(asks (z+2) B1 B2 B3).length,Dt,∀ w',Ch.holds (PR z B1 B2 B3 cR b95) w'→w'.cell? ⟨b95,0+k,none⟩=some (.func (.func 74) #[] #[pt (z+2)])] [(BN z),(QW z B1 B2 B3 cR b95),(Dl z B1 B2 B3),(10,Ac k),(14,.func (.func 74) #[] #[pt (z+2)])] rfl ⟨rfl,(by omega),rfl,FH (sz:=1) (j:=k) (k:=0) (fun _=>rfl) (by omega) (congrArg some hv),Ag⟩ ?_
  refine Bz 74 #[pt (z+2)] (some 15) (.agg (Ai.arr (GH c))) (fun w98 hw98=>ZH w98 (hL.ext (hw98.ext rfl)) c (hc.ext (hw98.ext rfl) (fun _ h=>h)) (z+2) (JY hw98 (i:=3)) hFr hpf) (fun n99 (hn100:n29≤n99) => ?_)
  refine FD 3 0 [] [[o0,(an 3 9)]] [Qb n99,Qb n99,Qb n99] [(BN z),(QW z B1 B2 B3 cR b95),(Dl z B1 B2 B3),(10,Ac k),(6,pt n99)] ⟨w,n99+1,[(Ak w),(BV z c),(CX z),(BZ z c),(PR z B1 B2 B3 cR b95),(caps 3 B1),(caps 3 B2),(caps 3 B3),(Dp z n17),(Tm c n99)]⟩ rfl ⟨rfl,rfl,rfl,Ag⟩ ?_
  by_cases h101:(((GH c).e:Int)==(0:Int)&&((((GH c).Af.First:Int)==(0:Int)&&(((GH c).Af.Second:Int)==(0:Int)&&true))&&true))=true
  ·refine A7 9 0 [0] [[(an 3 9),(oa [.via 0 (i6 0),.via 0 (i6 0),.via 0 (i6 0)]),⟨.seq true,none⟩],[(ov (i6 ((k+1:Nat):Int))),o0]] [Qb n99,Qb n99,Qb n99,Old w 0 0 (i6 0),Old w 0 1 (i6 0),Old w 0 2 (i6 0),(((GH c).e:Int)==(0:Int)&&((((GH c).Af.First:Int)==(0:Int)&&(((GH c).Af.Second:Int)==(0:Int)&&true))&&true))=true,Wr ((k:Int)+1) (((k+1:Nat):Int))] [(BN z),(QW z B1 B2 B3 cR b95),(Dl z B1 B2 B3),(Hl k)] rfl ⟨rfl,rfl,rfl,Aq (hL.2 0 _ rfl),Aq (hL.2 1 _ rfl),Aq (hL.2 2 _ rfl),h101,CU,Ag⟩ ?_
   refine Cc [0,1,2,3,4,5,6,7,8] [(Ak w),(BV z c),(CX z),(BZ z c),(PR z B1 B2 B3 cR b95),(caps 3 B1),(caps 3 B2),(caps 3 B3),(Dp z n17)] rfl rfl ?_
   refine BR [3,8,9,10] [(BN z),(QW z B1 B2 B3 cR b95),(Dl z B1 B2 B3),(Hl k)] ?_
   refine Cj (fun a w' hs=>⟨(asks (z+2) B1 B2 B3).length - (k+1),by omega,(n99+1),(k+1),(some ⟨b95,0,none⟩),cR,rfl,by omega,by omega,Gj hf (by rw[ha];exact EI.1 h101),hs⟩)
  refine A7 5 0 [1] [[(an 3 9),(oa [.via 0 (i6 0),.via 0 (i6 0),.via 0 (i6 0)]),⟨.seq false,none⟩]] [Qb n99,Qb n99,Qb n99,Old w 0 0 (i6 0),Old w 0 1 (i6 0),Old w 0 2 (i6 0),(((GH c).e:Int)==(0:Int)&&((((GH c).Af.First:Int)==(0:Int)&&(((GH c).Af.Second:Int)==(0:Int)&&true))&&true))=false] [(BN z),(QW z B1 B2 B3 cR b95),(Dl z B1 B2 B3),(10,Ac k),(6,pt n99),(18,.bool true)] rfl ⟨rfl,rfl,rfl,Aq (hL.2 0 _ rfl),Aq (hL.2 1 _ rfl),Aq (hL.2 2 _ rfl),(Bool.eq_false_iff.2 h101),Ag⟩ ?_
  refine DN 5 [0,1,2,3,4,5,6,7,8,9] [(Ak w),(BV z c),(CX z),(BZ z c),(PR z B1 B2 B3 cR b95),(caps 3 B1),(caps 3 B2),(caps 3 B3),(Dp z n17),(Tm c n99)] rfl rfl ?_
  refine Dc [(0,o0),(1,(a1 9)),(2,o0),(3,(an 2 9)),(4,o0)] [3,22,2] [Qb n99,Qb n99,Qb n99] (Dj 5 1) [(BN z),(22,.agg #[i6 ((GH c).Af.First),i6 ((GH c).Af.Second)]),(2,i6 ((GH c).e))] ⟨rfl,rfl,rfl,Ag⟩ ?_
  refine Bo 5 ?_
  refine Bq (an 2 2) [3,2] [Qb (z+1),Qb (z+1)] [(BN z),(2,i6 ((GH c).e))] ⟨w,n99+1,[(Ak w),(BV z c),(XJ z c),(BZ z c),(PR z B1 B2 B3 cR b95),(caps 3 B1),(caps 3 B2),(caps 3 B3),(Dp z n17),(Tm c n99)]⟩ [] ⟨rfl,rfl,Ag⟩ (.inl rfl) ?_
  refine D8 6 [0,1,2,3,4,5,6,7,8,9] [(Ak w),(BV z c),(XJ z c),(BZ z c),(PR z B1 B2 B3 cR b95),(caps 3 B1),(caps 3 B2),(caps 3 B3),(Dp z n17),(Tm c n99)] rfl rfl ?_
  refine CV ?_
  refine BR [3,2] [(BN z),(2,i6 ((GH c).e))] ?_
  refine GZ <| JA <| AX [.at 2,.at 2] [Qb (z+1),Qb (z+1)] (.tuple #[i6 ((GH c).e),.agg #[i6 ((GH c).Af.First),i6 ((GH c).Af.Second)]]) ⟨rfl,rfl,Ag⟩ ?_
  intro w102 hw102
  exact⟨congrArg (fun t:Ai=>Ending.returned (.tuple #[i6 t.e,.agg #[i6 t.Af.First,i6 t.Af.Second]])) ((MW (xs:=answers c) (k:=k) (by rw[GL];omega) hf (by rw[ha];exact fun x=>h101 (EI.2 x))).trans ha).symm,BC hw102⟩
 refine A7 15 0 [0] [[oF],[o0,o0,(an 2 2)]] [BF ((k:Int)<(((asks (z+2) B1 B2 B3).length:Nat):Int)),Qb (z+1),Qb (z+1)] [(BN z),(2,i6 0)] rfl ⟨bf,rfl,rfl,Ag⟩ ?_
 refine AX [.at 2,.at 2] [Qb (z+1),Qb (z+1)] (.tuple #[i6 0,.agg #[i6 0,i6 0]]) ⟨rfl,rfl,Ag⟩ ?_
 intro w103 hw103
 exact⟨congrArg (fun t:Ai=>Ending.returned (.tuple #[i6 t.e,.agg #[i6 t.Af.First,i6 t.Af.Second]])) (XT (xs:=answers c) (fun i hi=>hf i (by rw[GL]at hi;omega))).symm,BC hw103⟩
theorem MH{α:Type}[Inhabited α]{A:AW}{w:World}(h:Sat A w){cells:α→List Value}{sz:Nat}{ok:(Nat→Prop)→World→α→Prop}(hsz:∀ x,(cells x).length=sz){i b:Nat}{t:TypeId}{cs:Array Value}(xs:List α)(hok:∀ i,i<xs.length→ok Any w (gd xs i))(hi:A.σ[i]? = some (.blk b (.cells cs t (0,0)) true):=by rfl)(hx:xs.flatMap cells=cs.toList:=by rfl)(hl:cs.size=xs.length*sz:=by rfl)(hm:Nat.ble xs.length 1000=true:=by rfl):Ig cells sz ok Any w ⟨some ⟨b,0,none⟩,xs.length,xs⟩:=by
 have hle:=Nat.le_of_ble_eq_true hm
 have h1:=h.UG hi hx hl (Nat.zero_le b) (Nat.le_trans hle (by decide))
 have hlt:i<A.σ.length:=(List.getElem?_eq_some_iff.1 hi).1
 have h0:w.ownsRow 0 t sz (.slice (some ⟨b,0,none⟩) xs.length xs.length) xs.length (xs.flatMap cells):=h1.at (i:=i) (c:=CP 0 t sz cells (.slice (some ⟨b,0,none⟩) xs.length xs.length) xs) (by show(A.σ.set i _)[i]? = _;rw[List.getElem?_set_self hlt])
 have h2:=Ql (cells:=cells) (sz:=sz) hsz h0 (Nat.le_trans hle (by decide))
 refine⟨⟨h2.len,h2.le,fun hne => ?_⟩,hok⟩
 obtain⟨b',off,ha, -,hh⟩:=h2.cells hne
 exact⟨b',off,ha,Ag,hh⟩
theorem Oy{α:Type}[Inhabited α]{p:α→Prop}:∀ i,i<([]:List α).length→p (gd [] i):=fun i hi=>absurd hi (Nat.not_lt_zero i)
theorem MJ{α:Type}[Inhabited α]{p:α→Prop}{x:α}{r:List α}(h:p x)(hr:∀ i,i<r.length→p (gd r i)):∀ i,i<(x :: r).length→p (gd (x :: r) i)
 | 0,_=>h
 | i+1,hi=>hr i (by simpa using hi)
theorem Fb{n:Int}(h1:(-9223372036854775808:Int)≤n:=by decide)(h2:n≤9223372036854775807:=by decide):FY .i64 n:=⟨h1,h2⟩
theorem ZA(w:World)(hL:Gz w)(c:Aj)(hc:Aj.ok Any w c)(hS:c.Aa.xs.length+c.Am.xs.length+c.BB.xs.length≤15000000000000)(n:Int)(hn:(Ho c).e=n):Calls Tryd.prog 17 #[.agg (Aj.arr c)] w fun e w'=>∃ W:Hy,e = .returned (.tuple #[.int .i64 n,.agg (Hy.arr W)])∧CJ (fun _=>False) w w':=by
 subst hn
 exact(Ue w hL c hc hS).mono fun e w' h=>⟨_,h.1,h.2⟩
end Go.Proofs.YtjdmhijaanmccaaDoor.Ad
namespace Go.Proofs.YtjdmhijaanmccaaDoor.Eng
open Go Go.Proofs.YtjdmhijaanmccaaDoor.Mem Go.ChangeShapes Go.WideShapes Go.Deep
set_option linter.unusedSimpArgs false
set_option linter.unusedVariables false
section
variable {P:Program}{t:TypeId}
theorem N8{α:Type}[Inhabited α]{cells:α→List Value}{ok:(Nat→Prop)→World→α→Prop}{e:TypeId}{sz:Nat}(ht:P.underlying t=some (.slice e))(hc:P.cellsOf e=sz)(hsz:∀ x,(cells x).length=sz)(hs0:0<sz)(hpos:Nat.blt 0 (P.bytesOf e)=true)(h:Rd P e cells ok) :
   Rd P t (fun s:Sl α=>[s.val]) (fun F W s=>Ig cells sz ok F W s∧s.xs.length*P.bytesOf e≤reachBytes):=by
 intro H enc W fuel cs x hx hw
 rcases open_slice ht hx with⟨rfl,rfl⟩ | ⟨a,len,cap,m,n,D,Pl,rfl,hb,hl,hm,hmm,rfl,hi⟩
 · exact⟨⟨none,0,[]⟩,rfl,⟨⟨Nat.zero_le _,Nat.le_refl _,fun h=>absurd rfl h⟩,fun i hi=>absurd hi (Nat.not_lt_zero i)⟩,by simp⟩
 · simp only[if_true]at hmm
   subst hmm
   rw[hc]at hi
   have hww:∀ q∈DataW.weightsAll P e ((List.range len).map D),q≤reachBytes:=fun q hq=>hw q (by simp only[DataW.weights,ht,List.mem_cons,List.mem_append];exact .inr (.inl hq))
   have hY:∀ i,i<len→∃ y:α,(W.cells? 0 (a.add (i*sz)) sz=some (cells y))∧ok Any W y:=by
     intro i hi'
     obtain⟨cs',h1,h2⟩:=hi i (by omega)
     obtain⟨y,rfl,hy⟩:=h H enc W n cs' _ h2 (fun q hq=>hww q (weightsAll_mem (d:=D i) (List.mem_map_of_mem (List.mem_range.2 hi')) q hq))
     exact⟨y,h1,hy⟩
   obtain⟨Y,hY⟩:=choose_lt hY
   have hbig:(len+(m - len))*P.bytesOf e≤reachBytes:=hw _ (by simp[DataW.weights,ht])
   have hlen:len+(m - len)≤140737488351232:=Nat.le_trans (Nat.le_mul_of_pos_right _ (by simpa using hpos)) hbig
   have hg:∀ i,i<len→gd ((List.range len).map Y) i=Y i:=fun i hi'=>by rw[Gq (by simpa using hi')];simp
   refine⟨⟨some a,m,(List.range len).map Y⟩,by simp[Sl.val],⟨⟨by simp;omega,by simpa using hl,fun hne => ?_⟩,fun i hi' => ?_⟩,Nat.le_trans (Nat.mul_le_mul_right _ (by simp)) hbig⟩
   · have h0:0<len:=by
       rcases Nat.eq_zero_or_pos len with h | h
       · subst h;exact absurd rfl hne
       · exact h
     have hsp:a.spot=none:=by
       obtain⟨-, -,h3⟩:=World.cells?_some (hY 0 h0).1
       have h4:=h3 0 hs0
       rw[List.getElem?_eq_getElem (by rw[hsz];exact hs0)]at h4
       have:=World.cell?_spot h4
       simpa[Addr.add]using this
     obtain⟨b,off,sp⟩:=a
     simp only at hsp;subst hsp
     refine⟨b,off,rfl,Ag,fun i hi' k v hv => ?_⟩
     have hi2:i<len:=by simpa using hi'
     obtain⟨-, -,h3⟩:=World.cells?_some (hY i hi2).1
     have hv':(cells (Y i))[k]? = some v:=by simpa using hv
     have hk:k<sz:=by rw[←hsz (Y i)];exact(List.getElem?_eq_some_iff.1 hv').1
     have:=h3 k hk
     rw[hv']at this
     rw[Kw]
     have e1:(⟨b,off,none⟩:Addr).add (i*sz)=⟨b,off+i*sz,none⟩:=Ko rfl _
     have e2:(⟨b,off+i*sz,none⟩:Addr).add k=⟨b,off+i*sz+k,none⟩:=Ko rfl _
     rw[e1,e2]at this
     exact this
   · have hi2:i<len:=by simpa using hi'
     rw[hg i hi2];exact(hY i hi2).2
end
end Go.Proofs.YtjdmhijaanmccaaDoor.Eng
namespace Go.Proofs.YtjdmhijaanmccaaDoor.Ad
open Go Go.Proofs.YtjdmhijaanmccaaDoor.Eng Go.Proofs.YtjdmhijaanmccaaDoor.Mem Go.Proofs.YtjdmhijaanmccaaDoor.Ly
set_option linter.unusedSimpArgs false
set_option linter.unusedVariables false
set_option maxRecDepth 100000
structure Lim(c:Aj):Prop where
 cl:c.BB.xs.length*24≤140737488351232
 pl:c.Aa.xs.length*104≤140737488351232
 hl:c.Am.xs.length*24≤140737488351232
 ws:∀ i,i<c.BB.xs.length→(gd c.BB.xs i).xs.length*24≤140737488351232
 rs:∀ i,i<c.Aa.xs.length→(gd c.Aa.xs i).Ah.xs.length*32≤140737488351232
 qs:∀ i,i<c.Aa.xs.length→(gd c.Aa.xs i).AB.xs.length*16≤140737488351232
open Go.ChangeShapes Go.WideShapes Go.Deep
theorem Ya:Rd Tryd.prog 101 BK.cells BK.ok:=by
 intro H enc W fuel cs x hx hw
 obtain⟨xs,n, -,rfl,hl,hlen,hf⟩:=DataW.trod_struct Tryd.underlying101 hx
 rw[show Tryd.prog.cellsOf 101=3 from by kernel_rfl]at hl
 match cs,hl with
 | [c0,c1,c2],_ =>
  obtain⟨y0,e0,k0⟩:=E5 Tryd.underlying101 hlen hf hw 0 0 1 _ rfl rfl (by kernel_rfl) (Hu Tryd.underlying3)
  have g0:[c0]=_:=e0
  simp only[List.cons.injEq,and_true]at g0
  subst g0
  obtain⟨y1,e1,k1⟩:=E5 Tryd.underlying101 hlen hf hw 1 1 1 _ rfl rfl (by kernel_rfl) (Hu Tryd.underlying3)
  have g1:[c1]=_:=e1
  simp only[List.cons.injEq,and_true]at g1
  subst g1
  obtain⟨y2,e2,k2⟩:=E5 Tryd.underlying101 hlen hf hw 2 2 1 _ rfl rfl (by kernel_rfl) (Hu Tryd.underlying3)
  have g2:[c2]=_:=e2
  simp only[List.cons.injEq,and_true]at g2
  subst g2
  exact⟨⟨y0,y1,y2⟩,rfl,⟨k0,k1,k2⟩⟩
theorem Yj:Rd Tryd.prog 103 BJ.cells BJ.ok:=by
 intro H enc W fuel cs x hx hw
 obtain⟨xs,n, -,rfl,hl,hlen,hf⟩:=DataW.trod_struct Tryd.underlying103 hx
 rw[show Tryd.prog.cellsOf 103=4 from by kernel_rfl]at hl
 match cs,hl with
 | [c0,c1,c2,c3],_ =>
  obtain⟨y0,e0,k0⟩:=E5 Tryd.underlying103 hlen hf hw 0 0 1 _ rfl rfl (by kernel_rfl) (Hu Tryd.underlying3)
  have g0:[c0]=_:=e0
  simp only[List.cons.injEq,and_true]at g0
  subst g0
  obtain⟨y1,e1,k1⟩:=E5 Tryd.underlying103 hlen hf hw 1 1 1 _ rfl rfl (by kernel_rfl) (Hu Tryd.underlying3)
  have g1:[c1]=_:=e1
  simp only[List.cons.injEq,and_true]at g1
  subst g1
  obtain⟨y2,e2,k2⟩:=E5 Tryd.underlying103 hlen hf hw 2 2 1 _ rfl rfl (by kernel_rfl) (Hu Tryd.underlying3)
  have g2:[c2]=_:=e2
  simp only[List.cons.injEq,and_true]at g2
  subst g2
  obtain⟨y3,e3,k3⟩:=E5 Tryd.underlying103 hlen hf hw 3 3 1 _ rfl rfl (by kernel_rfl) (Hu Tryd.underlying3)
  have g3:[c3]=_:=e3
  simp only[List.cons.injEq,and_true]at g3
  subst g3
  exact⟨⟨y0,y1,y2,y3⟩,rfl,⟨k0,k1,k2,k3⟩⟩
theorem Z8:Rd Tryd.prog 127 DF.cells DF.ok:=by
 intro H enc W fuel cs x hx hw
 obtain⟨xs,n, -,rfl,hl,hlen,hf⟩:=DataW.trod_struct Tryd.underlying127 hx
 rw[show Tryd.prog.cellsOf 127=2 from by kernel_rfl]at hl
 match cs,hl with
 | [c0,c1],_ =>
  obtain⟨y0,e0,k0⟩:=E5 Tryd.underlying127 hlen hf hw 0 0 1 _ rfl rfl (by kernel_rfl) (Hu Tryd.underlying3)
  have g0:[c0]=_:=e0
  simp only[List.cons.injEq,and_true]at g0
  subst g0
  obtain⟨y1,e1,k1⟩:=E5 Tryd.underlying127 hlen hf hw 1 1 1 _ rfl rfl (by kernel_rfl) (rd_bool Tryd.underlying4)
  have g1:[c1]=_:=e1
  simp only[List.cons.injEq,and_true]at g1
  subst g1
  exact⟨⟨y0,y1⟩,rfl,⟨k0,k1⟩⟩
theorem X0:Rd Tryd.prog 115 BH.cells BH.ok:=by
 intro H enc W fuel cs x hx hw
 obtain⟨xs,n, -,rfl,hl,hlen,hf⟩:=DataW.trod_struct Tryd.underlying115 hx
 rw[show Tryd.prog.cellsOf 115=3 from by kernel_rfl]at hl
 match cs,hl with
 | [c0,c1,c2],_ =>
  obtain⟨y0,e0,k0⟩:=E5 Tryd.underlying115 hlen hf hw 0 0 1 _ rfl rfl (by kernel_rfl) (Hu Tryd.underlying3)
  have g0:[c0]=_:=e0
  simp only[List.cons.injEq,and_true]at g0
  subst g0
  obtain⟨y1,e1,k1⟩:=E5 Tryd.underlying115 hlen hf hw 1 1 1 _ rfl rfl (by kernel_rfl) (Hu Tryd.underlying3)
  have g1:[c1]=_:=e1
  simp only[List.cons.injEq,and_true]at g1
  subst g1
  obtain⟨y2,e2,k2⟩:=E5 Tryd.underlying115 hlen hf hw 2 2 1 _ rfl rfl (by kernel_rfl) (Hu Tryd.underlying3)
  have g2:[c2]=_:=e2
  simp only[List.cons.injEq,and_true]at g2
  subst g2
  exact⟨⟨y0,y1,y2⟩,rfl,⟨k0,k1,k2⟩⟩
theorem Zaa:Rd Tryd.prog 52 Ar.cells (fun F W x=>Ar.ok F W x∧x.Ah.xs.length*Tryd.prog.bytesOf 103≤reachBytes∧x.AB.xs.length*Tryd.prog.bytesOf 127≤reachBytes):=by
 intro H enc W fuel cs x hx hw
 obtain⟨xs,n, -,rfl,hl,hlen,hf⟩:=DataW.trod_struct Tryd.underlying52 hx
 rw[show Tryd.prog.cellsOf 52=8 from by kernel_rfl]at hl
 match cs,hl with
 | [c0,c1,c2,c3,c4,c5,c6,c7],_ =>
  obtain⟨y0,e0,k0⟩:=E5 Tryd.underlying52 hlen hf hw 0 0 1 _ rfl rfl (by kernel_rfl) (Zh Tryd.underlying9)
  have g0:[c0]=_:=e0
  simp only[List.cons.injEq,and_true]at g0
  subst g0
  obtain⟨y1,e1,k1⟩:=E5 Tryd.underlying52 hlen hf hw 1 1 1 _ rfl rfl (by kernel_rfl) (Hu Tryd.underlying3)
  have g1:[c1]=_:=e1
  simp only[List.cons.injEq,and_true]at g1
  subst g1
  obtain⟨y2,e2,k2⟩:=E5 Tryd.underlying52 hlen hf hw 2 2 1 _ rfl rfl (by kernel_rfl) (Hu Tryd.underlying3)
  have g2:[c2]=_:=e2
  simp only[List.cons.injEq,and_true]at g2
  subst g2
  obtain⟨y3,e3,k3⟩:=E5 Tryd.underlying52 hlen hf hw 3 3 1 _ rfl rfl (by kernel_rfl) (Hu Tryd.underlying3)
  have g3:[c3]=_:=e3
  simp only[List.cons.injEq,and_true]at g3
  subst g3
  obtain⟨y4,e4,k4⟩:=E5 Tryd.underlying52 hlen hf hw 4 4 1 _ rfl rfl (by kernel_rfl) (Hu Tryd.underlying3)
  have g4:[c4]=_:=e4
  simp only[List.cons.injEq,and_true]at g4
  subst g4
  obtain⟨y5,e5,k5⟩:=E5 Tryd.underlying52 hlen hf hw 5 5 1 _ rfl rfl (by kernel_rfl) (Hu Tryd.underlying3)
  have g5:[c5]=_:=e5
  simp only[List.cons.injEq,and_true]at g5
  subst g5
  obtain⟨y6,e6,k6⟩:=E5 Tryd.underlying52 hlen hf hw 6 6 1 _ rfl rfl (by kernel_rfl) (N8 (cells:=BJ.cells) (sz:=4) Tryd.underlying49 (by kernel_rfl) (fun _=>rfl) (by decide) (by kernel_rfl) Yj)
  have g6:[c6]=_:=e6
  simp only[List.cons.injEq,and_true]at g6
  subst g6
  obtain⟨y7,e7,k7⟩:=E5 Tryd.underlying52 hlen hf hw 7 7 1 _ rfl rfl (by kernel_rfl) (N8 (cells:=DF.cells) (sz:=2) Tryd.underlying50 (by kernel_rfl) (fun _=>rfl) (by decide) (by kernel_rfl) Z8)
  have g7:[c7]=_:=e7
  simp only[List.cons.injEq,and_true]at g7
  subst g7
  exact⟨⟨y0,y1,y2,y3,y4,y5,y6,y7⟩,rfl,⟨⟨k0,k1,k2,k3,k4,k5,k6.1,k7.1⟩,k6.2,k7.2⟩⟩
theorem rd_Conf:Rd Tryd.prog 26 Aj.cells (fun F W x=>Aj.ok F W x∧Lim x):=by
 intro H enc W fuel cs x hx hw
 obtain⟨xs,n, -,rfl,hl,hlen,hf⟩:=DataW.trod_struct Tryd.underlying26 hx
 rw[show Tryd.prog.cellsOf 26=7 from by kernel_rfl]at hl
 match cs,hl with
 | [c0,c1,c2,c3,c4,c5,c6],_ =>
  obtain⟨y0,e0,k0⟩:=E5 Tryd.underlying26 hlen hf hw 0 0 1 _ rfl rfl (by kernel_rfl) (Hu Tryd.underlying3)
  have g0:[c0]=_:=e0
  simp only[List.cons.injEq,and_true]at g0
  subst g0
  obtain⟨y1,e1,k1⟩:=E5 Tryd.underlying26 hlen hf hw 1 1 1 _ rfl rfl (by kernel_rfl) (Hu Tryd.underlying3)
  have g1:[c1]=_:=e1
  simp only[List.cons.injEq,and_true]at g1
  subst g1
  obtain⟨y2,e2,k2⟩:=E5 Tryd.underlying26 hlen hf hw 2 2 1 _ rfl rfl (by kernel_rfl) (Hu Tryd.underlying3)
  have g2:[c2]=_:=e2
  simp only[List.cons.injEq,and_true]at g2
  subst g2
  obtain⟨y3,e3,k3⟩:=E5 Tryd.underlying26 hlen hf hw 3 3 1 _ rfl rfl (by kernel_rfl) (Hu Tryd.underlying3)
  have g3:[c3]=_:=e3
  simp only[List.cons.injEq,and_true]at g3
  subst g3
  obtain⟨y4,e4,k4⟩:=E5 Tryd.underlying26 hlen hf hw 4 4 1 _ rfl rfl (by kernel_rfl) (N8 (cells:=(fun x:Sl BK=>[Sl.val x])) (sz:=1) Tryd.underlying22 (by kernel_rfl) (fun _=>rfl) (by decide) (by kernel_rfl) (N8 (cells:=BK.cells) (sz:=3) Tryd.underlying65 (by kernel_rfl) (fun _=>rfl) (by decide) (by kernel_rfl) Ya))
  have g4:[c4]=_:=e4
  simp only[List.cons.injEq,and_true]at g4
  subst g4
  obtain⟨y5,e5,k5⟩:=E5 Tryd.underlying26 hlen hf hw 5 5 1 _ rfl rfl (by kernel_rfl) (N8 (cells:=Ar.cells) (sz:=8) Tryd.underlying23 (by kernel_rfl) (fun _=>rfl) (by decide) (by kernel_rfl) Zaa)
  have g5:[c5]=_:=e5
  simp only[List.cons.injEq,and_true]at g5
  subst g5
  obtain⟨y6,e6,k6⟩:=E5 Tryd.underlying26 hlen hf hw 6 6 1 _ rfl rfl (by kernel_rfl) (N8 (cells:=BH.cells) (sz:=3) Tryd.underlying24 (by kernel_rfl) (fun _=>rfl) (by decide) (by kernel_rfl) X0)
  have g6:[c6]=_:=e6
  simp only[List.cons.injEq,and_true]at g6
  subst g6
  exact⟨⟨y0,y1,y2,y3,y4,y5,y6⟩,rfl,⟨⟨k0,k1,k2,k3,⟨k4.1.1,fun i hi=>(k4.1.2 i hi).1⟩,⟨k5.1.1,fun i hi=>(k5.1.2 i hi).1⟩,k6.1⟩,⟨by have h:=k4.2;rw[(show Tryd.prog.bytesOf 65=24 from by kernel_rfl)]at h;exact h,by have h:=k5.2;rw[(show Tryd.prog.bytesOf 52=104 from by kernel_rfl)]at h;exact h,by have h:=k6.2;rw[(show Tryd.prog.bytesOf 115=24 from by kernel_rfl)]at h;exact h,fun i hi=>by have h:=(k4.1.2 i hi).2;rw[(show Tryd.prog.bytesOf 101=24 from by kernel_rfl)]at h;exact h,fun i hi=>by have h:=(k5.1.2 i hi).2.1;rw[(show Tryd.prog.bytesOf 103=32 from by kernel_rfl)]at h;exact h,fun i hi=>by have h:=(k5.1.2 i hi).2.2;rw[(show Tryd.prog.bytesOf 127=16 from by kernel_rfl)]at h;exact h⟩⟩⟩
theorem Lim.sum{c:Aj}(h:Lim c):c.Aa.xs.length+c.Am.xs.length+c.BB.xs.length≤15000000000000:=by
 have h1:=h.cl;have h2:=h.pl;have h3:=h.hl
 omega
end Go.Proofs.YtjdmhijaanmccaaDoor.Ad
namespace Go.Proofs.YtjdmhijaanmccaaDoor.Eng
open Go Go.Proofs.YtjdmhijaanmccaaDoor.Mem
set_option linter.unusedSimpArgs false
set_option linter.unusedVariables false
section
variable {P:Program}{N:Nat}{env:Env}{ds:List Deferred}{A:AW}{ops:Array Oper}{l:List Oper}{s:List Kt}{Q:Exit→Act→World→Prop}
def VP(o:Oper):Option (Operand×TypeId):=match o.op with
 | .call c=>match c.callee,c.args.toList,c.argTypes.toList with
  | .builtin .clear,[x],[t]=>some (x,t)
  | _,_,_=>none
 | _=>none
theorem Xk{o:Oper}{x:Operand}{t:TypeId}(h:VP o=some (x,t)):o.op = .call { callee:= .builtin .clear,args:= #[x],argTypes:= #[t] }:=by
 unfold VP at h
 split at h
 ·rename_i c hop
  split at h
  ·rename_i x' t' h1 h2 h3
   simp only[Option.some.injEq,Prod.mk.injEq]at h
   obtain⟨rfl,rfl⟩:=h
   obtain⟨c1,c2,c3⟩:=c
   simp only at h1 h2 h3
   rw[hop,h1]
   congr 2
   ·apply Array.ext';rw[h2]
   apply Array.ext';rw[h3]
  cases h
 cases h
def Xq(P:Program)(N:Nat)(ops:Array Oper)(env:Env)(o:Oper):Option (TypeId×Nat×Value×Nat×Nat×Nat):=match VP o,MP ops env o,JD env o,LY N o.dst with
 | some (x,t),some true,true,true=>match P.underlying t,Io env x with
  | some (.slice e),.slice (some ⟨g,0,none⟩) n c=>match P.info? e with
   | some f=>match f.zero with
    | some z=>match Nat.beq z.cells.size f.size&&Nat.blt 0 f.size with
     | true=>some (e,f.size,z,g,n,c)
     | false=>none
    | none=>none
   | none=>none
  | _,_=>none
 | _,_,_,_=>none
theorem YD{P:Program}(w:World)(t ty elem:TypeId)(g n cap:Nat)(z:Value)(f:TypeInfo)(cur:Array Value)(te:TypeId)
   (hu:P.underlying t=some (.slice elem)) (hf:P.info? elem=some f) (hz:f.zero=some z) (hg:w.heap[g]? = some (.cells cur te (0,0))) (hfit:n*z.cells.size≤cur.size) (h1:∀ v∈z.cells.toList,v.oneCell'=true) (hp:0<z.cells.size) :
   (Builtin.clear_ #[t] ty #[.slice (some ⟨g,0,none⟩) n cap]).run P w =
     .ok (.tuple #[]) (w.setRow g (((List.replicate n z.cells.toList).flatten)++cur.toList.drop (n*z.cells.size)).toArray):=by
 have hfl:=SA hp n
 have hzc:(Builtin.zeroCells z.cells n).toList=(List.replicate n z.cells.toList).flatten:=hfl
 by_cases h0:n=0
 · subst h0
   simp only[Builtin.clear_,List.getElem?_toArray,List.getElem?_cons_zero,run_underlying hu,Sem.run_bind,Sem.run_pure,Result.andThen_ok]
   simp[Sem.run,setRow_self w g cur te (0,0) hg]
 · have hlen:((List.replicate n z.cells.toList).flatten).length=n*z.cells.size:=by simp
   have hst:=run_storeCells_at P g 0 te ((List.replicate n z.cells.toList).flatten) 0 cur w hg (by rw[hlen];omega) (fun v hv=>by
     obtain⟨l,hl,hv⟩:=List.mem_flatten.1 hv
     rw[List.eq_of_mem_replicate hl]at hv
     exact h1 v hv)
   rw[hlen]at hst
   simp only[Nat.zero_add,List.take_zero,List.nil_append]at hst
   obtain⟨m,rfl⟩:=Nat.exists_eq_succ_of_ne_zero h0
   simp[Builtin.clear_,run_underlying hu,zeroValue,typeInfo,hf,hz,hzc,hst]
theorem YN{α:Type}{base:Nat}{o:Oper}{e:TypeId}{sz g n c':Nat}{z:Value}(h:Xq P N ops env o=some (e,sz,z,g,n,c')){i:Nat}{cells:α→List Value}{xs:List α}{zt:α}{a:Act}{w:World}(hst:St N env ds A a w)
   (hi:A.σ[i]? = some (CP base e sz cells (.slice (some ⟨g,0,none⟩) n c') xs)) (hz:z.cells.toList=cells zt) (h1:∀ u∈cells zt,u.oneCell'=true) (hx:xs=List.replicate n zt) :
   Region.wanted o (yielded ops a.tmps)=true∧LY N o.dst=true∧(execOp a.eval o).run P w = .ok (.value (.tuple #[])) w:=by
 unfold Xq at h
 split at h
 · rename_i x t hop0 hw hk hd0
   have hop:=Xk hop0
   split at h
   · rename_i e' g' n' c2 ht hxv
     split at h
     · rename_i f hf
       split at h
       · rename_i z' hz'
         split at h
         · rename_i hsz
           simp only[Option.some.injEq,Prod.mk.injEq]at h
           obtain⟨rfl,rfl,rfl,rfl,rfl,rfl⟩:=h
           rw[Bool.and_eq_true]at hsz
           have hs1:=Nat.eq_of_beq_eq_true hsz.1
           have hs2:0<f.size:=by simpa using hsz.2
           refine⟨F7 hw hst,hd0, ?_⟩
           rw[Ip hst hk]
           subst hx
           have hown:w.ownsRow base e' f.size (.slice (some ⟨g',0,none⟩) n' c2) (List.replicate n' zt).length ((List.replicate n' zt).flatMap cells):=hst.mem.at hi
           rw[List.length_replicate]at hown
           rcases hown.2 with⟨h2,h3⟩ | ⟨g2,cap2,cur,h2,hbg,hg,hnc,hcm,hcs,htake⟩
           · cases h2
           · cases h2
             have hms:n' * f.size≤cur.size:=by rw[hcs];exact Nat.mul_le_mul_right _ hnc
             have hr:=YD (P:=P) w t o.type e' g' n' c2 z' f cur e' ht hf hz' hg (by rw[hs1];exact hms) (fun v hv=>h1 v (by rw[←hz];exact hv)) (by rw[hs1];exact hs2)
             have hsame:((List.replicate n' z'.cells.toList).flatten++cur.toList.drop (n' * z'.cells.size)).toArray=cur:=by
               rw[hz,Ur,←htake,hs1,List.take_append_drop]
             rw[hsame,setRow_self w g' cur e' (0,0) hg]at hr
             unfold execOp
             simp only[hop,resolve,invoke,builtin,Sem.run_bind,Sem.run_pure,Result.andThen_ok,List.map_toArray,List.map_cons,List.map_nil,hxv,hr]
         · cases h
       · cases h
     · cases h
   · cases h
 · cases h
theorem l_clear{α:Type}(base i:Nat)(xs:List α)(zt:α)(cells:α→List Value)(e:TypeId)(sz g n c':Nat)(z:Value)(d:Option Nat)(hx:xs=List.replicate n zt)
   (K:Lg P N (Gs env d (.tuple #[])) ds A ops (l.drop 1) s Q)
   (h:(match l with | o :: _=>(Xq P N ops env o).map (fun x=>(x,o.dst)) | []=>none)=some ((e,sz,z,g,n,c'),d):=by as_aux_lemma=>kernel_rfl) (hi:A.σ[i]? = some (CP base e sz cells (.slice (some ⟨g,0,none⟩) n c') xs):=by rfl) (hz:z.cells.toList=cells zt:=by rfl) (h1:(cells zt).all Value.oneCell'=true:=by rfl):Lg P N env ds A ops l s Q:=by
 intro a w hst
 cases l with
 | nil=>cases h
 | cons o l =>
   simp only[Option.map_eq_some_iff]at h
   obtain⟨y,hy,h⟩:=h
   simp only[Prod.mk.injEq]at h
   obtain⟨rfl,rfl⟩:=h
   obtain⟨hw,hdst,hr⟩:=YN (xs:=xs) hy hst hi hz (fun u hu=>List.all_eq_true.1 h1 u hu) hx
   refine Lt hw (.inl hr) ?_
   exact K _ _ (hst.put hst.mem _ hdst _)
end
section
variable {P:Program}{N:Nat}{env:Env}{ds:List Deferred}{A:AW}{s:List Kt}{Q:Exit→Act→World→Prop}
theorem Us{c:Code}(n:Nat)(h:G P N env ds A c (.inv (Code.rounds P c (QQ P s Q) n) :: s) Q):G P N env ds A (.loop c) s Q :=
 fun a w hs=>wp_loop_rounds (n+1) (h a w hs)
theorem Un{c:Code}{n:Nat}(h:G P N env ds A c (.inv (Code.rounds P c (QQ P s Q) n) :: s) Q):E P N env ds A .normal (.inv (Code.rounds P c (QQ P s Q) (n+1)) :: s) Q :=
 fun a w hs=>h a w hs
end
end Go.Proofs.YtjdmhijaanmccaaDoor.Eng
namespace Go.Proofs.YtjdmhijaanmccaaDoor.Dv
open Go Go.Proofs.YtjdmhijaanmccaaDoor.Eng Go.Proofs.YtjdmhijaanmccaaDoor.Mem Go.Proofs.YtjdmhijaanmccaaDoor.Ly Go.Proofs.YtjdmhijaanmccaaDoor.Ad
set_option linter.unusedSimpArgs false
set_option linter.unusedVariables false
set_option maxRecDepth 100000
section
variable (z:Nat)(c:Aj)
abbrev Oe:=bk z (Aj.arr c) 26
end
theorem XX(w:World)(c:Aj)(hc:Aj.ok Any w c):Calls Tryd.prog 6 #[.agg (Aj.arr c)] w fun e w'=>∃ b:Bool,e = .returned (.bool b)∧CJ (fun _=>False) w w':=by
 obtain⟨z,hz⟩:∃ z,z=w.heap.size:=⟨_,rfl⟩
 refine BP (args:=[.agg (Aj.arr c)]) 66 ⟨w,z,[(Ak w)]⟩ Tryd.func6 rfl (by kernel_rfl) (by kernel_rfl) (EQ hz) ?_
 have hb1:=hc.BB.1.len;have hb2:=hc.Aa.1.len;have hb3:=hc.Am.1.len
 refine DZ [0] [(0,.agg (Aj.arr c))] ?_
 refine q_c 14 0 [] [[o0,o0],[o0,(a1 1),o0,o0,(a1 1),o0,(ov (i6 ((c.BB.xs.length+c.Aa.xs.length:Nat):Int))),o0,(a1 1),o0,(ov (i6 (((c.BB.xs.length+c.Aa.xs.length)+c.Am.xs.length:Nat):Int))),o0],[o0]] [Qb z,Qb z,Wr ((c.BB.xs.length:Int)+(c.Aa.xs.length:Int)) (((c.BB.xs.length+c.Aa.xs.length:Nat):Int)),Qb z,Wr ((((c.BB.xs.length+c.Aa.xs.length:Nat):Int):Int)+(c.Am.xs.length:Int)) ((((c.BB.xs.length+c.Aa.xs.length)+c.Am.xs.length:Nat):Int))] [(1,pt z),(3,i6 (((c.BB.xs.length+c.Aa.xs.length)+c.Am.xs.length:Nat):Int)),(4,i6 0)] ⟨w,z+1,[(Ak w),(Oe z c)]⟩ rfl ⟨rfl,rfl,CU,rfl,CU,Ag⟩ ?_
 refine DW (fun m a w'=>∃ (n2:Nat) (i:Nat) (lf:Nat),m=c.BB.xs.length - i∧z+1≤n2∧(i≤c.BB.xs.length)∧(lf≤422214612537343)∧St 66 [(1,pt z),(3,Ac lf),(4,Ac i)] [] ⟨w,n2,[(Ak w),(Oe z c)]⟩ a w') (c.BB.xs.length - 0) ?_ ?_
 ·intro a w' hs;exact⟨(z+1),0,(c.BB.xs.length+c.Aa.xs.length+c.Am.xs.length),rfl,Nat.le_refl _,Nat.zero_le _,by omega,hs⟩
 rintro m a w' ⟨n2,i,lf,rfl,hn1,hki,hlf,hs⟩
 refine(?_:G Tryd.prog 66 [(1,pt z),(3,Ac lf),(4,Ac i)] [] ⟨w,n2,[(Ak w),(Oe z c)]⟩ _ _ _) a w' hs
 clear hs a w'
 refine DC <| DC ?_
 by_cases h3:(i:Int)<(c.BB.xs.length:Int)
 ·by_cases h4:(2147483647:Int)<(lf:Int)
  ·refine A7 15 0 [0] [[o0,o0,(a1 1),o0,oT,o0,o0,oF,o0],[o0]] [Qb z,BT ((i:Int)<(c.BB.xs.length:Int)),BF ((lf:Int)≤2147483647)] [(1,pt z),(3,Ac lf),(5,i6 0)] rfl ⟨rfl,bt,bf,Ag⟩ ?_
   refine DW (fun m a w'=>∃ (n6:Nat) (p:Nat) (lg:Nat),m=c.Aa.xs.length - p∧n2≤n6∧(p≤c.Aa.xs.length)∧(lg≤422214612537343)∧St 66 [(1,pt z),(3,Ac lg),(5,Ac p)] [] ⟨w,n6,[(Ak w),(Oe z c)]⟩ a w') (c.Aa.xs.length - 0) ?_ ?_
   ·intro a w' hs;exact⟨n2,0,lf,rfl,Nat.le_refl _,Nat.zero_le _,by omega,hs⟩
   rintro m a w' ⟨n6,p,lg,rfl,hn5,hkp,hlg,hs⟩
   refine(?_:G Tryd.prog 66 [(1,pt z),(3,Ac lg),(5,Ac p)] [] ⟨w,n6,[(Ak w),(Oe z c)]⟩ _ _ _) a w' hs
   clear hs a w'
   refine DC <| DC ?_
   by_cases h7:(p:Int)<(c.Aa.xs.length:Int)
   ·by_cases h8:(2147483647:Int)<(lg:Int)
    ·refine A7 14 0 [0] [[o0,o0,(a1 1),o0,oT,o0,o0,oF,o0],[o0,oT,o0]] [Qb z,BT ((p:Int)<(c.Aa.xs.length:Int)),BF ((lg:Int)≤2147483647),BT ((lg:Int) > 2147483647)] [(2,.bool true)] rfl ⟨rfl,bt,bf,bt,Ag⟩ ?_
     refine AX [] [] (.bool true) Ag ?_
     intro w9 hw9
     exact⟨_,rfl,BC hw9⟩
    refine A7 8 0 [1] [[o0,o0,(a1 1),o0,oT,o0,o0,oT,o0]] [Qb z,BT ((p:Int)<(c.Aa.xs.length:Int)),BT ((lg:Int)≤2147483647)] [(1,pt z),(3,Ac lg),(5,Ac p),(44,.bool true)] rfl ⟨rfl,bt,bt,Ag⟩ ?_
    obtain⟨b10,o11,ha12,hF14,hc13⟩:=(hc.Aa).1.all (show 0<c.Aa.xs.length by omega)
    replace ha12:c.Aa.a=some ⟨b10,o11,none⟩:=ha12
    have hc15:=hc13 p (show p<c.Aa.xs.length by omega)
    have he16:=(hc.Aa).2 p (show p<c.Aa.xs.length by omega)
    obtain⟨y17,hy17⟩:∃ y_,y_=gd c.Aa.xs p:=⟨_,rfl⟩
    rw[←hy17]at he16 hc15
    have hyr:=he16.Ah.1.len;have hyq:=he16.AB.1.len
    refine DN 18 [0,1] [(Ak w),(Oe z c)] rfl rfl ?_
    refine Dc [(0,o0),(1,o0),(2,(Jk 1 b10 o11 c.Aa)),(3,o0),(4,(oi p)),(5,o0),(6,(oa [.via 0 (.slice y17.Ah.a y17.Ah.xs.length y17.Ah.cap)])),(7,o0),(8,(ov (i6 ((lg+y17.Ah.xs.length:Nat):Int)))),(9,o0),(10,(Jk 1 b10 o11 c.Aa)),(11,o0),(12,(oi p)),(13,o0),(14,(oa [.via 0 (.slice y17.AB.a y17.AB.xs.length y17.AB.cap)])),(15,o0),(16,(ov (i6 (((lg+y17.Ah.xs.length)+y17.AB.xs.length:Nat):Int)))),(17,o0)] [1,3,5] [Qb z,IQ b10 o11 c.Aa,Ed p,p<c.Aa.xs.length,Dt,Old w b10 (o11+p*8+6) (.slice y17.Ah.a y17.Ah.xs.length y17.Ah.cap),Wr ((lg:Int)+(y17.Ah.xs.length:Int)) (((lg+y17.Ah.xs.length:Nat):Int)),Qb z,IQ b10 o11 c.Aa,Ed p,p<c.Aa.xs.length,Dt,Old w b10 (o11+p*8+7) (.slice y17.AB.a y17.AB.xs.length y17.AB.cap),Wr ((((lg+y17.Ah.xs.length:Nat):Int):Int)+(y17.AB.xs.length:Int)) ((((lg+y17.Ah.xs.length)+y17.AB.xs.length:Nat):Int))] (Dj 18 0) [(1,pt z),(3,i6 (((lg+y17.Ah.xs.length)+y17.AB.xs.length:Nat):Int)),(5,Ac p)] ⟨rfl,IP ha12,rfl,(by omega),rfl,Aq (hc15 6 _ rfl),CU,rfl,IP ha12,rfl,(by omega),rfl,Aq (hc15 7 _ rfl),CU,Ag⟩ ?_
    refine CV ?_
    refine Ns 4 0 [] [[o0,(ov (i6 ((p+1:Nat):Int))),o0]] [Wr ((p:Int)+1) (((p+1:Nat):Int))] [(1,pt z),(3,i6 (((lg+y17.Ah.xs.length)+y17.AB.xs.length:Nat):Int)),(5,i6 ((p+1:Nat):Int))] rfl ⟨CU,Ag⟩ ?_
    refine Cj (fun a w' hs=>⟨c.Aa.xs.length - (p+1),by omega,n6,(p+1),((lg+y17.Ah.xs.length)+y17.AB.xs.length),rfl,by omega,by omega,by omega,hs⟩)
   refine A7 10 0 [0] [[o0,o0,(a1 1),o0,oF,o0,o0]] [Qb z,BF ((p:Int)<(c.Aa.xs.length:Int))] [(1,pt z),(3,Ac lg),(5,Ac p),(44,.bool false)] rfl ⟨rfl,bf,Ag⟩ ?_
   by_cases h18:(2147483647:Int)<(lg:Int)
   ·refine A7 4 0 [] [[o0,oT,o0]] [BT ((lg:Int) > 2147483647)] [(2,.bool true)] rfl ⟨bt,Ag⟩ ?_
    refine AX [] [] (.bool true) Ag ?_
    intro w19 hw19
    exact⟨_,rfl,BC hw19⟩
   refine A7 4 0 [] [[o0,oF,o0]] [BF ((lg:Int) > 2147483647)] [(2,.bool false)] rfl ⟨bf,Ag⟩ ?_
   refine AX [] [] (.bool false) Ag ?_
   intro w20 hw20
   exact⟨_,rfl,BC hw20⟩
  refine A7 8 0 [1] [[o0,o0,(a1 1),o0,oT,o0,o0,oT,o0]] [Qb z,BT ((i:Int)<(c.BB.xs.length:Int)),BT ((lf:Int)≤2147483647)] [(1,pt z),(3,Ac lf),(4,Ac i),(25,.bool true)] rfl ⟨rfl,bt,bt,Ag⟩ ?_
  obtain⟨b21,o22,ha23,hF25,hc24⟩:=(hc.BB).1.all (show 0<c.BB.xs.length by omega)
  replace ha23:c.BB.a=some ⟨b21,o22,none⟩:=ha23
  have hc26:=hc24 i (show i<c.BB.xs.length by omega)
  have he27:=(hc.BB).2 i (show i<c.BB.xs.length by omega)
  obtain⟨y28,hy28⟩:∃ y_,y_=gd c.BB.xs i:=⟨_,rfl⟩
  rw[←hy28]at he27 hc26
  have hyl:=he27.1.len
  refine A7 6 0 [] [[o0,o0,(Jk 1 b21 o22 c.BB),o0,(oi i),(oa [.via 0 (.slice y28.a y28.xs.length y28.cap)]),o0,(ov (i6 ((lf+y28.xs.length:Nat):Int))),o0],[o0,(ov (i6 ((i+1:Nat):Int))),o0]] [Qb z,IQ b21 o22 c.BB,Ed i,i<c.BB.xs.length,Dt,Old w b21 (o22+i) (.slice y28.a y28.xs.length y28.cap),Wr ((lf:Int)+(y28.xs.length:Int)) (((lf+y28.xs.length:Nat):Int)),Wr ((i:Int)+1) (((i+1:Nat):Int))] [(1,pt z),(3,i6 ((lf+y28.xs.length:Nat):Int)),(4,i6 ((i+1:Nat):Int))] rfl ⟨rfl,IP ha23,rfl,(by omega),rfl,Aq (hc26 0 _ rfl),CU,CU,Ag⟩ ?_
  refine Cj (fun a w' hs=>⟨c.BB.xs.length - (i+1),by omega,n2,(i+1),(lf+y28.xs.length),rfl,by omega,by omega,by omega,hs⟩)
 refine A7 15 0 [0] [[o0,o0,(a1 1),o0,oF,o0,o0],[o0]] [Qb z,BF ((i:Int)<(c.BB.xs.length:Int))] [(1,pt z),(3,Ac lf),(5,i6 0)] rfl ⟨rfl,bf,Ag⟩ ?_
 refine DW (fun m a w'=>∃ (n30:Nat) (p:Nat) (lg:Nat),m=c.Aa.xs.length - p∧n2≤n30∧(p≤c.Aa.xs.length)∧(lg≤422214612537343)∧St 66 [(1,pt z),(3,Ac lg),(5,Ac p)] [] ⟨w,n30,[(Ak w),(Oe z c)]⟩ a w') (c.Aa.xs.length - 0) ?_ ?_
 ·intro a w' hs;exact⟨n2,0,lf,rfl,Nat.le_refl _,Nat.zero_le _,by omega,hs⟩
 rintro m a w' ⟨n30,p,lg,rfl,hn29,hkp,hlg,hs⟩
 refine(?_:G Tryd.prog 66 [(1,pt z),(3,Ac lg),(5,Ac p)] [] ⟨w,n30,[(Ak w),(Oe z c)]⟩ _ _ _) a w' hs
 clear hs a w'
 refine DC <| DC ?_
 by_cases h31:(p:Int)<(c.Aa.xs.length:Int)
 ·by_cases h32:(2147483647:Int)<(lg:Int)
  ·refine A7 14 0 [0] [[o0,o0,(a1 1),o0,oT,o0,o0,oF,o0],[o0,oT,o0]] [Qb z,BT ((p:Int)<(c.Aa.xs.length:Int)),BF ((lg:Int)≤2147483647),BT ((lg:Int) > 2147483647)] [(2,.bool true)] rfl ⟨rfl,bt,bf,bt,Ag⟩ ?_
   refine AX [] [] (.bool true) Ag ?_
   intro w33 hw33
   exact⟨_,rfl,BC hw33⟩
  refine A7 8 0 [1] [[o0,o0,(a1 1),o0,oT,o0,o0,oT,o0]] [Qb z,BT ((p:Int)<(c.Aa.xs.length:Int)),BT ((lg:Int)≤2147483647)] [(1,pt z),(3,Ac lg),(5,Ac p),(44,.bool true)] rfl ⟨rfl,bt,bt,Ag⟩ ?_
  obtain⟨b34,o35,ha36,hF38,hc37⟩:=(hc.Aa).1.all (show 0<c.Aa.xs.length by omega)
  replace ha36:c.Aa.a=some ⟨b34,o35,none⟩:=ha36
  have hc39:=hc37 p (show p<c.Aa.xs.length by omega)
  have he40:=(hc.Aa).2 p (show p<c.Aa.xs.length by omega)
  obtain⟨y41,hy41⟩:∃ y_,y_=gd c.Aa.xs p:=⟨_,rfl⟩
  rw[←hy41]at he40 hc39
  have hyr:=he40.Ah.1.len;have hyq:=he40.AB.1.len
  refine DN 18 [0,1] [(Ak w),(Oe z c)] rfl rfl ?_
  refine Dc [(0,o0),(1,o0),(2,(Jk 1 b34 o35 c.Aa)),(3,o0),(4,(oi p)),(5,o0),(6,(oa [.via 0 (.slice y41.Ah.a y41.Ah.xs.length y41.Ah.cap)])),(7,o0),(8,(ov (i6 ((lg+y41.Ah.xs.length:Nat):Int)))),(9,o0),(10,(Jk 1 b34 o35 c.Aa)),(11,o0),(12,(oi p)),(13,o0),(14,(oa [.via 0 (.slice y41.AB.a y41.AB.xs.length y41.AB.cap)])),(15,o0),(16,(ov (i6 (((lg+y41.Ah.xs.length)+y41.AB.xs.length:Nat):Int)))),(17,o0)] [1,3,5] [Qb z,IQ b34 o35 c.Aa,Ed p,p<c.Aa.xs.length,Dt,Old w b34 (o35+p*8+6) (.slice y41.Ah.a y41.Ah.xs.length y41.Ah.cap),Wr ((lg:Int)+(y41.Ah.xs.length:Int)) (((lg+y41.Ah.xs.length:Nat):Int)),Qb z,IQ b34 o35 c.Aa,Ed p,p<c.Aa.xs.length,Dt,Old w b34 (o35+p*8+7) (.slice y41.AB.a y41.AB.xs.length y41.AB.cap),Wr ((((lg+y41.Ah.xs.length:Nat):Int):Int)+(y41.AB.xs.length:Int)) ((((lg+y41.Ah.xs.length)+y41.AB.xs.length:Nat):Int))] (Dj 18 0) [(1,pt z),(3,i6 (((lg+y41.Ah.xs.length)+y41.AB.xs.length:Nat):Int)),(5,Ac p)] ⟨rfl,IP ha36,rfl,(by omega),rfl,Aq (hc39 6 _ rfl),CU,rfl,IP ha36,rfl,(by omega),rfl,Aq (hc39 7 _ rfl),CU,Ag⟩ ?_
  refine CV ?_
  refine Ns 4 0 [] [[o0,(ov (i6 ((p+1:Nat):Int))),o0]] [Wr ((p:Int)+1) (((p+1:Nat):Int))] [(1,pt z),(3,i6 (((lg+y41.Ah.xs.length)+y41.AB.xs.length:Nat):Int)),(5,i6 ((p+1:Nat):Int))] rfl ⟨CU,Ag⟩ ?_
  refine Cj (fun a w' hs=>⟨c.Aa.xs.length - (p+1),by omega,n30,(p+1),((lg+y41.Ah.xs.length)+y41.AB.xs.length),rfl,by omega,by omega,by omega,hs⟩)
 refine A7 10 0 [0] [[o0,o0,(a1 1),o0,oF,o0,o0]] [Qb z,BF ((p:Int)<(c.Aa.xs.length:Int))] [(1,pt z),(3,Ac lg),(5,Ac p),(44,.bool false)] rfl ⟨rfl,bf,Ag⟩ ?_
 by_cases h42:(2147483647:Int)<(lg:Int)
 ·refine A7 4 0 [] [[o0,oT,o0]] [BT ((lg:Int) > 2147483647)] [(2,.bool true)] rfl ⟨bt,Ag⟩ ?_
  refine AX [] [] (.bool true) Ag ?_
  intro w43 hw43
  exact⟨_,rfl,BC hw43⟩
 refine A7 4 0 [] [[o0,oF,o0]] [BF ((lg:Int) > 2147483647)] [(2,.bool false)] rfl ⟨bf,Ag⟩ ?_
 refine AX [] [] (.bool false) Ag ?_
 intro w44 hw44
 exact⟨_,rfl,BC hw44⟩
def Yd(n mq:Nat)(aW:Option Addr)(nW cW:Nat)(W:List Int):List Ch:=[.blk mq (.cells #[.slice aW nW cW] 81 (0,0)) true,CP n 54 1 (fun x:Int=>[Value.int .u32 x]) (.slice aW nW cW) W]
theorem RQ(w:World)(nF:Nat)(hF1:1≤nF)(hF2:nF≤1024):Calls Tryd.prog 10 #[.int .i64 (nF:Int)] w fun e w'=>∃ mq aW cW,e = .returned (.tuple #[.pointer (some ⟨mq,0,none⟩),.int .i64 0])∧w.heap.size≤mq∧∃ w0,Sat ⟨w0,w'.heap.size,Yd w.heap.size mq aW (nF*16) cW (List.replicate (nF*16) 0)⟩ w'∧CJ (fun _=>False) w w':=by
 obtain⟨z,hz⟩:∃ z,z=w.heap.size:=⟨_,rfl⟩
 refine BP (args:=[(Ac nF)]) 18 ⟨w,z,[(Ak w)]⟩ Tryd.func10 rfl (by kernel_rfl) (by kernel_rfl) (EQ hz) ?_
 refine DZ [0] [(0,Ac nF)] ?_
 refine A7 14 2 [0] [[o0,o0],[o0,oF,o0,o0,oF,o0],[o0,(ov (i6 ((nF*16:Nat):Int)))]] [BF ((nF:Int)<1),BF ((nF:Int) > 1024),Wr ((nF:Int)*16) (((nF*16:Nat):Int))] [(12,i6 ((nF*16:Nat):Int))] rfl ⟨bf,bf,CU,Ag⟩ ?_
 refine l_make z (nF*16) 0 (fun x:Int=>[Value.int .u32 x]) 54 1 4 (.int .u32 0) (((nF*16:Nat):Int):Int) (((nF*16:Nat):Int):Int) (some 13) rfl rfl (by omega) (show z≤z by omega) (fun n1 (hn2:z+1≤n1) => ?_)
 refine BQ 4 1 [] [[o0],[o0]] [] [(4,.slice (some ⟨z,0,none⟩) (nF*16) (nF*16)),(14,.slice (some ⟨z,0,none⟩) (nF*16) (nF*16))] rfl Ag ?_
 refine l_clear z 1 (List.replicate (nF*16) 0) 0 (fun x:Int=>[Value.int .u32 x]) 54 1 z (nF*16) (nF*16) (.int .u32 0) none rfl ?_
 refine FD 7 0 [] [[],[o0,o0,o0,o0,o0]] [] [(2,pt n1),(3,i6 0)] ⟨w,n1+1,[(Ak w),(CP z 54 1 (fun x:Int=>[Value.int .u32 x]) (.slice (some ⟨z,0,none⟩) (nF*16) (nF*16)) (List.replicate (nF*16) 0)),(bk n1 #[.slice (some ⟨z,0,none⟩) (nF*16) (nF*16)] 81)]⟩ rfl Ag ?_
 refine AX [] [] (.tuple #[pt n1,i6 0]) Ag ?_
 intro w3 hw3
 have h4:=hw3.pick [2,1] rfl rfl
 skip
 rw[←hz]
 exact⟨n1,(some ⟨z,0,none⟩),nF*16,rfl,(show z≤n1 by omega),w,by rw[hw3.size];exact h4,BC hw3⟩
end Go.Proofs.YtjdmhijaanmccaaDoor.Dv
namespace Go.Proofs.YtjdmhijaanmccaaDoor.Ad
open Go Go.Proofs.YtjdmhijaanmccaaDoor.Eng Go.Proofs.YtjdmhijaanmccaaDoor.Mem Go.Proofs.YtjdmhijaanmccaaDoor.Ly
set_option linter.unusedSimpArgs false
set_option linter.unusedVariables false
set_option maxRecDepth 100000
def Qr(x:Ai):Prop:=x=BU∨((400≤x.e∧x.e≤423) ∧ -1≤x.Af.First ∧ -1≤x.Af.Second)
theorem RG:Qr BU:= .inl rfl
theorem SN{e a b:Int}(h:400≤e∧e≤423)(ha : -1≤a)(hb : -1≤b):Qr ⟨e,⟨a,b⟩⟩:= .inr ⟨h,ha,hb⟩
theorem NC{b:Bool}{e x y:Int}(h:400≤e∧e≤423)(ha : -1≤x)(hb : -1≤y):Qr (Ae b e ⟨x,y⟩):=by
 cases b
 ·exact SN h ha hb
 exact RG
theorem OA:∀ {l:List Ai},(∀ x∈l,Qr x)→Qr (AV l)
 | [],_=>RG
 | x :: r,h=>by
  unfold AV
  by_cases e:x=BU
  ·rw[if_pos e];exact OA fun y hy=>h y (List.mem_cons_of_mem _ hy)
  rw[if_neg e];exact h x (List.mem_cons_self ..)
theorem Ut{o:Ai}{f:Nat→Ai}{n:Nat}(ho:Qr o)(hf:∀ i,Qr (f i)):Qr (Em o f n):=by
 unfold Em
 refine OA fun x hx => ?_
 rcases List.mem_cons.1 hx with rfl | hx
 ·exact ho
 obtain⟨i, -,rfl⟩:=List.mem_map.1 hx;exact hf i
section
variable (c:Aj)
theorem ZO(p:Nat):Qr (DK c p):=by
 have hr:∀ k,Qr (Fe c p k):=by
  intro k
  unfold Fe
  split
  ·exact SN (by decide) (by omega) (by omega)
  split
  ·exact SN (by decide) (by omega) (by omega)
  split
  ·exact SN (by decide) (by omega) (by omega)
  exact RG
 have hA:Qr (Ik c p):=Ut (OA fun x hx=>by
  simp only[GY,List.mem_cons,List.not_mem_nil,or_false]at hx
  rcases hx with rfl | rfl | rfl | rfl <;> exact NC (by decide) (by omega) (by omega)) hr
 unfold DK
 split
 ·exact Ut (OA fun x hx=>by
   simp only[Hq,List.mem_cons,List.not_mem_nil,or_false]at hx
   rcases hx with rfl | rfl <;> exact NC (by decide) (by omega) (by omega)) (fun k=>NC (by decide) (by omega) (by omega))
 exact hA
theorem ZE(h:Nat):Qr (DD c h):=OA fun x hx=>by
 simp only[List.mem_cons,List.not_mem_nil,or_false]at hx
 rcases hx with rfl | rfl | rfl <;> exact NC (by decide) (by omega) (by omega)
theorem ZQ(k:Nat):Qr (ER c k):=by
 have hw:∀ n,Qr (EY c k n):=fun n=>OA fun x hx=>by
  simp only[Pz,List.mem_cons,List.not_mem_nil,or_false]at hx
  rcases hx with rfl | rfl | rfl <;> exact NC (by decide) (by omega) (by omega)
 unfold ER
 split
 ·exact SN (by decide) (by omega) (by omega)
 split
 ·exact NC (by decide) (by omega) (by omega)
 exact Ut RG hw
theorem YG:Qr (Ho c):=OA fun x hx=>by
 simp only[answers,List.mem_append,List.mem_cons,List.not_mem_nil,or_false,List.mem_map,List.mem_range]at hx
 rcases hx with(((hx | ⟨p, -,rfl⟩) | ⟨p, -,rfl⟩) | ⟨p, -,rfl⟩) | rfl
 ·rcases hx with rfl | rfl | rfl | rfl | rfl <;> exact NC (by decide) (by decide) (by decide)
 ·exact ZO c p
 ·exact ZE c p
 ·exact ZQ c p
 exact NC (by decide) (by decide) (by decide)
variable {c}
theorem Yl(h:(Ho c).e=0):Ho c=BU:=by
 rcases YG c with e | e
 ·exact e
 omega
theorem X9:∀ {l:List Ai},AV l=BU→∀ k,k<l.length→gd l k=BU:=fun h k hk=>by
 rw[Gq hk];exact Kv h _ (List.getElem_mem _)
structure Good(c:Aj):Prop where
 fr:1≤c.Frames∧c.Frames≤1024
 mj:1≤c.FQ∧c.FQ≤16384
 cn:1≤c.BB.xs.length∧c.BB.xs.length≤4
 pn:c.Aa.xs.length≤8
 hn:c.Am.xs.length≤16
 reg:∀ p k,p<c.Aa.xs.length→k<(gd c.Aa.xs p).Ah.xs.length→1≤(Dk c p k).BG∧0≤(Dk c p k).Frame∧(Dk c p k).Frame+(Dk c p k).BG≤c.Frames
 apart:∀ p k q n,p<c.Aa.xs.length→k<(gd c.Aa.xs p).Ah.xs.length→q≤p→n<(gd c.Aa.xs q).Ah.xs.length→(q<p∨n<k)→(Dk c p k).Frame+(Dk c p k).BG≤(Dk c q n).Frame∨(Dk c q n).Frame+(Dk c q n).BG≤(Dk c p k).Frame
 rn:∀ p,p<c.Aa.xs.length→(gd c.Aa.xs p).Ah.xs.length≤8
 qn:∀ p,p<c.Aa.xs.length→(gd c.Aa.xs p).AB.xs.length≤8
 port:∀ p k,p<c.Aa.xs.length→k<(gd c.Aa.xs p).AB.xs.length→0≤(WJ c p k).Channel∧(WJ c p k).Channel<(c.Am.xs.length:Int)
 src:∀ h,h<c.Am.xs.length→Jp c h=1
 dst:∀ h,h<c.Am.xs.length→1≤Be c h∧Be c h≤4
 wn:∀ k,k<c.BB.xs.length→(gd c.BB.xs k).xs.length≤16
 win:∀ k n,k<c.BB.xs.length→n<(gd c.BB.xs k).xs.length→(-1≤(gd (DX c k).xs n).Partition∧(gd (DX c k).xs n).Partition<(c.Aa.xs.length:Int))∧(1≤(gd (DX c k).xs n).BA∧(gd (DX c k).xs n).BA≤16384)∧(82≤(gd (DX c k).xs n).A8∧(gd (DX c k).xs n).A8≤16384)
 split:∀ k n,k<c.BB.xs.length→n<(gd c.BB.xs k).xs.length→Ii c k (gd (DX c k).xs n).Partition=false
 sum:∀ k,k<c.BB.xs.length→sumW (DX c k).xs (DX c k).xs.length=c.FQ
 Z9:(0≤c.Kernel∧c.Kernel≤c.Frames - 1)∧(1≤c.Room∧c.Room≤c.Frames - c.Kernel)
 own:∀ q n,q<c.Aa.xs.length→n<(gd c.Aa.xs q).Ah.xs.length→(Dk c q n).Frame+(Dk c q n).BG≤c.Kernel∨c.Kernel+c.Room≤(Dk c q n).Frame
 err:errOf c=0
 need:1≤JK c∧JK c≤c.Room
theorem XD{a m b o:Int}(h:meet a m b o=false):b+o≤a∨a+m≤b:=by
 unfold meet at h
 simp only[Bool.and_eq_false_iff,decide_eq_false_iff_not]at h
 omega
theorem U6{p:Nat→Bool}{n:Nat}(h:(List.range n).any p=false){k:Nat}(hk:k<n):p k=false:=by
 rw[List.any_eq_false]at h
 have:=h k (List.mem_range.2 hk)
 simpa using this
theorem XK(h:Fine c):∀ i,c.Kernel+1≤EE c i
 | 0=>by
  have h1:=Rj h _ (Nat.le_refl _)
  unfold D7 at h1
  rw[WX];omega
 | i+1=>by
  have:=XK h i
  rw[Uw];omega
theorem ZV(h:errOf c=0):1≤JK c:=by
 have hok:EG c=true:=by
  cases e:EG c with
  | true=>rfl
  | false=>unfold errOf at h;rw[e]at h;exact absurd h (by decide)
 unfold JK
 rw[if_pos hok]
 have hf:=TG hok
 have h1:=XK hf c.Aa.xs.length
 omega
theorem Ve(h:Ho c=BU):Good c:=by
 have ha:∀ i,i<(answers c).length→gd (answers c) i=BU:=X9 h
 have hl:=GL (c:=c)
 have g0:=ha 0 (by omega);have g1:=ha 1 (by omega);have g2:=ha 2 (by omega);have g3:=ha 3 (by omega);have g4:=ha 4 (by omega)
 rw[Uz (by decide)]at g0 g1 g2 g3 g4
 have w0:=Es ((Gn (by decide)).1 (show Ae (win c.Frames 1 1024) 400 ⟨-1, -1⟩=BU from g0))
 have w1:=Es ((Gn (by decide)).1 (show Ae (win c.FQ 1 16384) 401 ⟨-1, -1⟩=BU from g1))
 have w2:=Es ((Gn (by decide)).1 (show Ae (win (c.BB.xs.length:Int) 1 4) 402 ⟨-1, -1⟩=BU from g2))
 have w3:=Es ((Gn (by decide)).1 (show Ae (win (c.Aa.xs.length:Int) 1 8) 403 ⟨-1, -1⟩=BU from g3))
 have w4:=of_decide_eq_true ((Gn (by decide)).1 (show Ae (decide ((c.Am.xs.length:Int)≤16)) 404 ⟨-1, -1⟩=BU from g4))
 have hp:∀ p,p<c.Aa.xs.length→DK c p=BU:=fun p hp=>by rw[←WB hp];exact ha _ (by omega)
 have hh:∀ k,k<c.Am.xs.length→DD c k=BU:=fun p hp=>by rw[←ans_h hp];exact ha _ (by omega)
 have hk:∀ k,k<c.BB.xs.length→ER c k=BU:=fun p hp=>by rw[←ans_k hp];exact ha _ (by omega)
 have he:GH c=BU:=by rw[←ans_e (c:=c)];exact ha _ (by omega)
 have hB:∀ p,p<c.Aa.xs.length→∀ k,k<(ES c p).Ah.xs.length→Fe c p k=BU:=fun p hp'=>(KL (MR (hp p hp'))).2
 have hreg:∀ p k,p<c.Aa.xs.length→k<(gd c.Aa.xs p).Ah.xs.length→L9 c (Dk c p k)=true∧(List.range k).any (Qk c p k)=false∧(List.range (p+1)).any (Vd c p k)=false:=by
  intro p k h1 h2
  have e:=hB p h1 k h2
  have e1:=Si e
  by_cases e2:(List.range k).any (Qk c p k)=true
  ·rw[YR e1 e2]at e;exact absurd (congrArg Ai.e e) (by decide:¬ (410:Int)=0)
  have e2':(List.range k).any (Qk c p k)=false:=by simpa using e2
  by_cases e3:(List.range (p+1)).any (Vd c p k)=true
  ·rw[WE e1 e2' e3]at e;exact absurd (congrArg Ai.e e) (by decide:¬ (411:Int)=0)
  exact⟨e1,e2',by simpa using e3⟩
 have hPE:∀ p,p<c.Aa.xs.length→_:=fun p hp'=>KL (XN (hp p hp'))
 have hkb:=(Gn (by decide)).1 (show Ae (Gy c) 423 ⟨-1, -1⟩=BU from he)
 unfold Gy at hkb
 simp only[Bool.and_eq_true,Bool.not_eq_true',decide_eq_true_eq]at hkb
 obtain⟨⟨⟨k1,k2⟩,k3⟩,k4,k5⟩:=hkb
 have hcore:∀ k,k<c.BB.xs.length→win ((DX c k).xs.length:Nat) 1 16=true∧Em BU (EY c k) (DX c k).xs.length=BU∧sumW (DX c k).xs (DX c k).xs.length=c.FQ:=by
  intro k hk'
  have e:=hk k hk'
  unfold ER at e
  by_cases e1:win ((DX c k).xs.length:Nat) 1 16=false
  ·rw[if_pos e1]at e;exact absurd (congrArg Ai.e e) (by decide:¬ (418:Int)=0)
  rw[if_neg e1]at e
  by_cases e2:Em BU (EY c k) (DX c k).xs.length=BU
  ·rw[if_pos e2,Gn (by decide)]at e
   exact⟨by simpa using e1,e2,of_decide_eq_true e⟩
  rw[if_neg e2]at e;exact absurd e e2
 have hcw:∀ k n,k<c.BB.xs.length→n<(gd c.BB.xs k).xs.length→EY c k n=BU:=fun k n h1 h2=>(KL (hcore k h1).2.1).2 n h2
 refine⟨w0,w1,by omega,by omega,by omega, ?_, ?_, ?_, ?_, ?_, ?_, ?_, ?_, ?_, ?_, ?_,⟨Es k1,Es k2⟩, ?_,k4,⟨ZV k4,k5⟩⟩
 ·intro p k h1 h2
  have e:=(hreg p k h1 h2).1
  unfold L9 at e
  simp only[Bool.and_eq_true,decide_eq_true_eq]at e
  have a1:=Es e.1.1.1.2
  omega
 ·intro p k q n h1 h2 h3 h4 h5
  have e:=U6 (U6 (hreg p k h1 h2).2.2 (show q<p+1 by omega)) (show n<(ES c q).Ah.xs.length from h4)
  unfold S9 at e
  rw[Bool.and_eq_false_iff]at e
  rcases e with e | e
  ·simp only[Bool.or_eq_false_iff,decide_eq_false_iff_not]at e;omega
  have:=XD e;omega
 ·intro p h1
  have e:=(KL (MR (hp p h1))).1
  have e2:=Kv e _ (List.mem_cons_of_mem _ (List.mem_cons_of_mem _ (List.mem_cons_of_mem _ (List.mem_cons_self ..))))
  rw[Gn (by decide)]at e2
  have:=Es e2
  simp only[ES]at this
  omega
 ·intro p h1
  have e2:=Kv (hPE p h1).1 _ (List.mem_cons_of_mem _ (List.mem_cons_self ..))
  rw[Gn (by decide)]at e2
  have:=of_decide_eq_true e2
  simp only[ES]at this
  omega
 ·intro p k h1 h2
  have e2:=(hPE p h1).2 k h2
  unfold JU at e2
  rw[Gn (by decide)]at e2
  have:=Es e2
  omega
 ·intro k h1
  have e0:=hh k h1
  unfold DD at e0
  have e:=Kv e0 _ (List.mem_cons_of_mem _ (List.mem_cons_self ..))
  rw[Gn (by decide)]at e
  have:=of_decide_eq_true e
  omega
 ·intro k h1
  have e0:=hh k h1
  unfold DD at e0
  have e:=Kv e0 _ (List.mem_cons_of_mem _ (List.mem_cons_of_mem _ (List.mem_cons_self ..)))
  rw[Gn (by decide)]at e
  have:=Es e
  have h4:Ap (MB c k)≤4:=by unfold Ap;split <;> omega
  omega
 ·intro k h1
  have:=Es (hcore k h1).1
  simp only[DX]at this
  omega
 ·intro k n h1 h2
  have e:=hcw k n h1 h2
  have e2:=Ru e
  unfold EY Pz at e
  have e3:=Kv e _ (List.mem_cons_self ..)
  rw[Gn (by decide),Bool.and_eq_true]at e3
  have e4:=Es e3.1
  exact⟨by omega,e2⟩
 ·intro k n h1 h2
  have e:=hcw k n h1 h2
  unfold EY Pz at e
  have e3:=Kv e _ (List.mem_cons_of_mem _ (List.mem_cons_of_mem _ (List.mem_cons_self ..)))
  rw[Gn (by decide)]at e3
  simpa using e3
 ·intro k h1
  exact(hcore k h1).2.2
 intro q n h1 h2
 have e:=U6 (U6 k3 h1) (show n<(ES c q).Ah.xs.length from h2)
 unfold Xi at e
 have:=XD e
 omega
end
end Go.Proofs.YtjdmhijaanmccaaDoor.Ad
namespace Go.Proofs.YtjdmhijaanmccaaDoor.Dv
open Go Go.Proofs.YtjdmhijaanmccaaDoor.Eng Go.Proofs.YtjdmhijaanmccaaDoor.Mem Go.Proofs.YtjdmhijaanmccaaDoor.Ly Go.Proofs.YtjdmhijaanmccaaDoor.Ad
set_option linter.unusedSimpArgs false
set_option linter.unusedVariables false
set_option maxRecDepth 100000
def Eb(c:Aj)(i:Nat):List Int:=(List.range i).map fun q=>(gd c.Aa.xs q).AA
def Gf(c:Aj)(i:Nat):List Int:=(List.range i).map fun(q:Nat)=>c.Kernel*16+25+24*(q:Int)
theorem SB{c:Aj}{i:Nat}:(Eb c i).length=i:=by simp[Eb]
theorem V3{c:Aj}{i:Nat}:(Gf c i).length=i:=by simp[Gf]
theorem Yo{c:Aj}{i:Nat}:Eb c (i+1)=Eb c i++[(gd c.Aa.xs i).AA]:=by unfold Eb;rw[List.range_succ,List.map_append];rfl
theorem ZK{c:Aj}{i:Nat}:Gf c (i+1)=Gf c i++[c.Kernel*16+25+24*(i:Int)]:=by unfold Gf;rw[List.range_succ,List.map_append];rfl
def Y5(n dp mp:Nat)(fr:Int)(nP:Nat)(O A:List Int)(aO:Option Addr)(cO:Nat)(aA:Option Addr)(cA:Nat):List Ch:=[.blk dp (.cells #[.int .i64 fr,.slice aO nP cO,.slice aA nP cA,.map (some mp)] 68 (0,0)) true,CP n 3 1 (fun x:Int=>[Value.int .i64 x]) (.slice aO nP cO) O,CP n 3 1 (fun x:Int=>[Value.int .i64 x]) (.slice aA nP cA) A,.blk mp (.map #[] 0) true]
theorem Ws{c:Aj}(h:errOf c=0):EG c=true:=by
 unfold errOf at h
 cases hk:EG c with
 | true=>rfl
 | false=>rw[hk]at h;exact absurd h (by decide)
theorem Xv{c:Aj}{L:FN}(hI:WA c L){i:Nat}(hi:i<c.Aa.xs.length):(gd L.Aa.xs i).State=c.Kernel*16+21+24*(i:Int):=by
 obtain⟨_,_,h⟩:=hI.ps i hi
 rw[h]
 show D7 c i+2+17=_
 unfold D7;omega
section
variable (w6:World)(c:Aj)(ax19:Option Addr)(i:Nat)(y18:Ar)(cp20:Nat)(ax31:Option Addr)(y30:AZ)(cp32:Nat)(aA:Option Addr)(cA:Nat)(aO:Option Addr)(cO n2 n9:Nat)(lay7:FN)(z b11 o12:Nat)(w:World)
abbrev SX:=bk (w6.heap.size+2) #[i6 c.Frames,.slice ax19 (((Eb c i)++[y18.AA]).length) cp20,.slice ax31 (((Gf c i)++[y30.State+4]).length) cp32,.map (some (w6.heap.size+1))] 68
abbrev QL:=bk (w6.heap.size+2) #[i6 c.Frames,.slice ax19 (((Eb c i)++[y18.AA]).length) cp20,.slice aA ((Gf c i).length) cA,.map (some (w6.heap.size+1))] 68
abbrev OX:=bk (w6.heap.size+2) #[i6 c.Frames,.slice aO ((Eb c i).length) cO,.slice aA ((Gf c i).length) cA,.map (some (w6.heap.size+1))] 68
abbrev IW:=bk n2 #[i6 ((Ho c).Af.First),i6 ((Ho c).Af.Second)] 38
abbrev Oj:=bk (n9+1) #[i6 y18.AA] 3
abbrev Jm:Ch:= .blk w6.heap.size (.cells (FN.arr lay7) 60 (0,0)) true
abbrev LM:=bk n9 (Ar.arr y18) 52
abbrev IJ:=bk z (Aj.arr c) 26
abbrev Pi:=CP z 3 1 (fun x:Int=>[i6 x]) (.slice ax19 (((Eb c i)++[y18.AA]).length) cp20) ((Eb c i)++[y18.AA])
abbrev Sv:=CP z 3 1 (fun x:Int=>[i6 x]) (.slice ax31 (((Gf c i)++[y30.State+4]).length) cp32) ((Gf c i)++[y30.State+4])
abbrev O4:=CP z 3 1 (fun x:Int=>[i6 x]) (.slice aO ((Eb c i).length) cO) (Eb c i)
abbrev L8:=CP z 3 1 (fun x:Int=>[i6 x]) (.slice aA ((Gf c i).length) cA) (Gf c i)
abbrev Hw:CO:=(43,.slice (some ⟨b11,o12,none⟩) c.Aa.xs.length c.Aa.cap)
abbrev MS:CO:=(43,.slice c.Aa.a c.Aa.xs.length c.Aa.cap)
abbrev FW:=(44,Ac c.Aa.xs.length)
abbrev EK:=(10,pt (w6.heap.size+2))
abbrev FT:=(8,pt w6.heap.size)
abbrev Lu:=[(Ak w),(IJ c z),(IW c n2),(mid (n2+1) w6),(Jm w6 lay7),(Ch.blk (w6.heap.size+1) (.map #[] 0) true),(OX w6 c i aA cA aO cO),(O4 c i aO cO z),(L8 c i aA cA z)]
end
theorem Yc(w:World)(hL:Gz w)(c:Aj)(hc:Aj.ok Any w c)(hS:c.Aa.xs.length+c.Am.xs.length+c.BB.xs.length≤15000000000000):Calls Tryd.prog 8 #[.agg (Aj.arr c),.slice none 0 0] w fun e w'=>((¬ (Ho c).e=0∧e = .returned (.tuple #[.pointer none,.int .i64 221]))∨(Ho c=BU∧∃ dp mp aO cO aA cA w0,e = .returned (.tuple #[.pointer (some ⟨dp,0,none⟩),.int .i64 0])∧w.heap.size≤dp∧w.heap.size≤mp∧Sat ⟨w0,w'.heap.size,Y5 w.heap.size dp mp c.Frames c.Aa.xs.length (Eb c c.Aa.xs.length) (Gf c c.Aa.xs.length) aO cO aA cA⟩ w'))∧CJ (fun _=>False) w w':=by
 obtain⟨z,hz⟩:∃ z,z=w.heap.size:=⟨_,rfl⟩
 refine BP (args:=[.agg (Aj.arr c),.slice none 0 0]) 165 ⟨w,z,[(Ak w)]⟩ Tryd.func8 rfl (by kernel_rfl) (by kernel_rfl) (EQ hz) ?_
 have hpl:=hc.Aa.1.len
 refine DZ [0,1] [(0,.agg (Aj.arr c)),(1,.slice none 0 0)] ?_
 refine q_c 15 1 [0] [[o0,o0,o0],[o0,o0,o0],[(an 7 1)]] [Qb z,Qb z,Qb z,Qb z,Qb z,Qb z,Qb z] [(1,.slice none 0 0),(2,pt z),(24,.agg (Aj.arr c))] ⟨w,z+1,[(Ak w),(IJ c z)]⟩ rfl ⟨rfl,rfl,rfl,rfl,rfl,rfl,rfl,Ag⟩ ?_
 refine Bz 17 #[.agg (Aj.arr c)] (some 25) (.tuple #[i6 ((Ho c).e),.agg #[i6 ((Ho c).Af.First),i6 ((Ho c).Af.Second)]]) (fun w1 hw1=>Ue w1 (hL.ext (hw1.ext rfl)) c (hc.ext (hw1.ext rfl) (fun _ h=>h)) hS) (fun n2 (hn3:z+1≤n2) => ?_)
 refine FD 3 0 [] [[o0,o0,o0,o0,o0,(an 2 2)]] [Qb n2,Qb n2] [(1,.slice none 0 0),(2,pt z),(6,i6 ((Ho c).e))] ⟨w,n2+1,[(Ak w),(IJ c z),(IW c n2)]⟩ rfl ⟨rfl,rfl,Ag⟩ ?_
 by_cases h4:((Ho c).e:Int)=0
 ·have hF:=Yl h4;have hG:=Ve hF;have hGk:=hG.Z9;have hGp:=hG.pn;have hGf:=hG.fr;have hcok:=Ws hG.err
  refine A7 8 1 [0] [[o0,oF],[(an 7 1)]] [NF ((Ho c).e) 0,Qb z,Qb z,Qb z,Qb z,Qb z,Qb z,Qb z] [(1,.slice none 0 0),(2,pt z),(31,.agg (Aj.arr c))] rfl ⟨nf,rfl,rfl,rfl,rfl,rfl,rfl,rfl,Ag⟩ ?_
  refine l_call [] [] 18 #[.agg (Aj.arr c)] (some 32) Ag ?_
  intro w5 hw5
  refine(Xr w5 c (hc.ext (hw5.ext rfl) (fun _ h=>h)) hcok).mono ?_
  rintro e w6 ⟨lay7,rfl,hIlay7,hOlay7, -,hkw6⟩
  have hnw6:n2+1≤w6.heap.size:=EO hw5 hkw6
  rw[hw5.size]at hOlay7;have hpllay7:lay7.Aa.xs.length=c.Aa.xs.length:=hIlay7.pl
  refine⟨_,_,rfl,hw5.RV hkw6, ?_⟩
  refine FD 20 0 [0] [[o0,o0,o0,o0,(an 4 4),o0],[o0,o0],[o0,(a1 1),o0,o0,o0,o0],[o0,(a1 1),o0,o0]] [Qb w6.heap.size,Qb w6.heap.size,Qb w6.heap.size,Qb w6.heap.size,Qb z,Qb z] [(1,.slice none 0 0),(2,pt z),(FT w6),(EK w6),(MS c),(FW c),(45,i6 0)] ⟨w,w6.heap.size+3,[(Ak w),(IJ c z),(IW c n2),(mid (n2+1) w6),(Jm w6 lay7),(Ch.blk (w6.heap.size+1) (.map #[] 0) true),(bk (w6.heap.size+2) #[i6 c.Frames,.slice none 0 0,.slice none 0 0,.map (some (w6.heap.size+1))] 68)]⟩ rfl ⟨rfl,rfl,rfl,rfl,rfl,rfl,Ag⟩ ?_
  refine Nb z 3 1 (fun x:Int=>[i6 x]) ?_
  refine Nb z 3 1 (fun x:Int=>[i6 x]) ?_
  refine DW (fun m a w'=>∃ (n9:Nat) (i:Nat) (aO:Option Addr) (cO:Nat) (aA:Option Addr) (cA:Nat),m=c.Aa.xs.length - i∧w6.heap.size+3≤n9∧(i≤c.Aa.xs.length)∧St 165 [(1,.slice none 0 0),(2,pt z),(FT w6),(EK w6),(MS c),(FW c),(45,Ac i)] [] ⟨w,n9,(Lu w6 c i aA cA aO cO n2 lay7 z w)⟩ a w') (c.Aa.xs.length - 0) ?_ ?_
  ·intro a w' hs;exact⟨(w6.heap.size+3),0,none,0,none,0,rfl,Nat.le_refl _,Nat.zero_le _,hs⟩
  rintro m a w' ⟨n9,i,aO,cO,aA,cA,rfl,hn8,hki,hs⟩
  refine(?_:G Tryd.prog 165 [(1,.slice none 0 0),(2,pt z),(FT w6),(EK w6),(MS c),(FW c),(45,Ac i)] [] ⟨w,n9,(Lu w6 c i aA cA aO cO n2 lay7 z w)⟩ _ _ _) a w' hs
  clear hs a w'
  have hlo:(Eb c i).length=i:=SB;have hla:(Gf c i).length=i:=V3
  refine DC ?_
  by_cases h10:(i:Int)<(c.Aa.xs.length:Int)
  ·refine A7 10 0 [1] [[oT]] [BT ((i:Int)<(c.Aa.xs.length:Int))] [(1,.slice none 0 0),(2,pt z),(FT w6),(EK w6),(MS c),(FW c),(45,Ac i),(46,.bool true)] rfl ⟨bt,Ag⟩ ?_
   obtain⟨b11,o12,ha13,hF15,hc14⟩:=(hc.Aa).1.all (show 0<c.Aa.xs.length by omega)
   replace ha13:c.Aa.a=some ⟨b11,o12,none⟩:=ha13
   refine IM [(1,.slice none 0 0),(2,pt z),(FT w6),(EK w6),(Hw c b11 o12),(FW c),(45,Ac i),(46,.bool true)] (by(try dsimp only[OX,IW,Jm,IJ,O4,L8,Hw,MS,FW,EK,FT,Lu]);simp only[ha13]) ?_
   have hc16:=hc14 i (show i<c.Aa.xs.length by omega)
   have he17:=(hc.Aa).2 i (show i<c.Aa.xs.length by omega)
   obtain⟨y18,hy18⟩:∃ y_,y_=gd c.Aa.xs i:=⟨_,rfl⟩
   rw[←hy18]at he17 hc16
   refine q_c 4 0 [] [[o0,(oi i),(ol 0 (Ar.arr y18)),o0,o0,(an 8 9)]] [Ed i,i<c.Aa.xs.length,Dt,Ie w b11 (o12+i*8) (Ar.arr y18),Qb n9,Qb n9,Qb n9,Qb n9,Qb n9,Qb n9,Qb n9,Qb n9] [(1,.slice none 0 0),(2,pt z),(FT w6),(EK w6),(Hw c b11 o12),(FW c),(45,Ac i),(12,pt n9),(11,Ac i)] ⟨w,n9+1,[(Ak w),(IJ c z),(IW c n2),(mid (n2+1) w6),(Jm w6 lay7),(Ch.blk (w6.heap.size+1) (.map #[] 0) true),(OX w6 c i aA cA aO cO),(O4 c i aO cO z),(L8 c i aA cA z),(LM y18 n9)]⟩ rfl ⟨rfl,(by omega),rfl,EL hc16,rfl,rfl,rfl,rfl,rfl,rfl,rfl,rfl,Ag⟩ ?_
   refine DN 11 [0,1,2,3,4,5,6,9] [(Ak w),(IJ c z),(IW c n2),(mid (n2+1) w6),(Jm w6 lay7),(Ch.blk (w6.heap.size+1) (.map #[] 0) true),(OX w6 c i aA cA aO cO),(LM y18 n9)] rfl rfl ?_
   refine Dc [(0,o0),(1,o0),(2,o0),(3,o0),(4,(a1 6)),(5,o0),(6,(a1 7))] [1,2,8,10,43,44,45,11,50,54,56] [Qb (w6.heap.size+2),Qb n9] (Dj 7 5) [(1,.slice none 0 0),(2,pt z),(FT w6),(EK w6),(Hw c b11 o12),(FW c),(45,Ac i),(11,Ac i),(50,pt (w6.heap.size+2)),(54,.slice aO ((Eb c i).length) cO),(56,i6 y18.AA)] ⟨rfl,rfl,Ag⟩ ?_
   refine Bo 7 ?_
   refine Bq o0 [1,2,8,10,43,44,45,11,50,54,57] [] [(1,.slice none 0 0),(2,pt z),(FT w6),(EK w6),(Hw c b11 o12),(FW c),(45,Ac i),(11,Ac i),(50,pt (w6.heap.size+2)),(54,.slice aO ((Eb c i).length) cO),(57,.slice (some ⟨n9+1,0,none⟩) 1 1)] ⟨w,n9+2,[(Ak w),(IJ c z),(IW c n2),(mid (n2+1) w6),(Jm w6 lay7),(Ch.blk (w6.heap.size+1) (.map #[] 0) true),(OX w6 c i aA cA aO cO),(O4 c i aO cO z),(L8 c i aA cA z),(LM y18 n9),(Oj y18 n9)]⟩ [0,1,2,3,4,5,6,9] Ag (.inr rfl) ?_
   refine Bo 8 ?_
   refine OD z 7 10 (Eb c i) [y18.AA] (fun x:Int=>[i6 x]) 3 1 8 (.slice aO ((Eb c i).length) cO) (n9+1) 1 1 #[i6 y18.AA] 3 (0,0) true (some 58) [0,1,2,3,4,5,6,9] (by simp only[List.length_cons,List.length_nil];omega) (show z≤n9+2 by omega) (.inr ⟨rfl,rfl⟩) (fun ax19 cp20 n21 (hn22:n9+2≤n21) => ?_)
   refine CZ [1,2,8,10,43,44,45,11,50,58] [(1,.slice none 0 0),(2,pt z),(FT w6),(EK w6),(Hw c b11 o12),(FW c),(45,Ac i),(11,Ac i),(50,pt (w6.heap.size+2)),(58,.slice ax19 (((Eb c i)++[y18.AA]).length) cp20)] ?_
   refine Dc [(9,o0),(10,o0)] [1,2,8,10,43,44,45,11,58,60] [] (Dj 11 1) [(1,.slice none 0 0),(2,pt z),(FT w6),(EK w6),(Hw c b11 o12),(FW c),(45,Ac i),(11,Ac i),(58,.slice ax19 (((Eb c i)++[y18.AA]).length) cp20),(60,.pointer (some ⟨w6.heap.size+2,1,none⟩))] Ag ?_
   refine Bo 11 ?_
   refine Bq (a1 6) [1,2,8,10,43,44,45,11] [Qb (w6.heap.size+2)] [(1,.slice none 0 0),(2,pt z),(FT w6),(EK w6),(Hw c b11 o12),(FW c),(45,Ac i),(11,Ac i)] ⟨w,n21,[(Ak w),(IJ c z),(IW c n2),(mid (n2+1) w6),(Jm w6 lay7),(Ch.blk (w6.heap.size+1) (.map #[] 0) true),(QL w6 c ax19 i y18 cp20 aA cA),(Pi c ax19 i y18 cp20 z),(L8 c i aA cA z),(LM y18 n9),(Oj y18 n9)]⟩ [] ⟨rfl,Ag⟩ (.inl rfl) ?_
   refine D8 12 [0,1,2,3,4,5,6,7,8,9,10] [(Ak w),(IJ c z),(IW c n2),(mid (n2+1) w6),(Jm w6 lay7),(Ch.blk (w6.heap.size+1) (.map #[] 0) true),(QL w6 c ax19 i y18 cp20 aA cA),(Pi c ax19 i y18 cp20 z),(L8 c i aA cA z),(LM y18 n9),(Oj y18 n9)] rfl rfl ?_
   refine CV ?_
   refine BR [1,2,8,10,43,44,45,11] [(1,.slice none 0 0),(2,pt z),(FT w6),(EK w6),(Hw c b11 o12),(FW c),(45,Ac i),(11,Ac i)] ?_
   refine GZ ?_
   obtain⟨b23,o24,ha25,hF27,hc26⟩:=(hOlay7.Aa).1.all (show 0<lay7.Aa.xs.length by omega)
   replace ha25:lay7.Aa.a=some ⟨b23,o24,none⟩:=ha25
   have hc28:=hc26 i (show i<lay7.Aa.xs.length by omega)
   have he29:=(hOlay7.Aa).2 i (show i<lay7.Aa.xs.length by omega)
   obtain⟨y30,hy30⟩:∃ y_,y_=gd lay7.Aa.xs i:=⟨_,rfl⟩
   rw[←hy30]at he29 hc28
   have hsty30:y30.State=c.Kernel*16+21+24*(i:Int):=by rw[hy30];exact Xv hIlay7 (by omega)
   refine DN 16 [0,1,2,3,4,5,6,9,10] [(Ak w),(IJ c z),(IW c n2),(mid (n2+1) w6),(Jm w6 lay7),(Ch.blk (w6.heap.size+1) (.map #[] 0) true),(QL w6 c ax19 i y18 cp20 aA cA),(LM y18 n9),(Oj y18 n9)] rfl rfl ?_
   refine Dc [(0,o0),(1,o0),(2,o0),(3,o0),(4,(a1 6)),(5,o0),(6,(Jk 4 b23 o24 lay7.Aa)),(7,o0),(8,(oi i)),(9,o0),(10,(oa [.via 3 (i6 y30.State)])),(11,(ov (i6 (y30.State+4))))] [1,2,8,10,43,44,45,61,65,72] [Qb (w6.heap.size+2),Qb w6.heap.size,IQ b23 o24 lay7.Aa,Ed i,i<lay7.Aa.xs.length,Dt,∀ w',Ch.holds (mid (n2+1) w6) w'→w'.cell? ⟨b23,o24+i*5+2,none⟩=some (i6 y30.State),Wr ((y30.State:Int)+4) (y30.State+4)] (Dj 12 5) [(1,.slice none 0 0),(2,pt z),(FT w6),(EK w6),(Hw c b11 o12),(FW c),(45,Ac i),(61,pt (w6.heap.size+2)),(65,.slice aA ((Gf c i).length) cA),(72,i6 (y30.State+4))] ⟨rfl,rfl,IP ha25,rfl,(by omega),rfl,OE hF27 (hc28 2 _ rfl),CU,Ag⟩ ?_
   refine Bo 12 ?_
   refine Bq o0 [1,2,8,10,43,44,45,61,65,73] [] [(1,.slice none 0 0),(2,pt z),(FT w6),(EK w6),(Hw c b11 o12),(FW c),(45,Ac i),(61,pt (w6.heap.size+2)),(65,.slice aA ((Gf c i).length) cA),(73,.slice (some ⟨n21,0,none⟩) 1 1)] ⟨w,n21+1,[(Ak w),(IJ c z),(IW c n2),(mid (n2+1) w6),(Jm w6 lay7),(Ch.blk (w6.heap.size+1) (.map #[] 0) true),(QL w6 c ax19 i y18 cp20 aA cA),(Pi c ax19 i y18 cp20 z),(L8 c i aA cA z),(LM y18 n9),(Oj y18 n9),(bk n21 #[i6 (y30.State+4)] 3)]⟩ [0,1,2,3,4,5,6,9,10] Ag (.inr rfl) ?_
   refine Bo 13 ?_
   refine OD z 8 11 (Gf c i) [y30.State+4] (fun x:Int=>[i6 x]) 3 1 8 (.slice aA ((Gf c i).length) cA) n21 1 1 #[i6 (y30.State+4)] 3 (0,0) true (some 74) [0,1,2,3,4,5,6,9,10] (by simp only[List.length_cons,List.length_nil];omega) (show z≤n21+1 by omega) (.inr ⟨rfl,rfl⟩) (fun ax31 cp32 n33 (hn34:n21+1≤n33) => ?_)
   refine CZ [1,2,8,10,43,44,45,61,74] [(1,.slice none 0 0),(2,pt z),(FT w6),(EK w6),(Hw c b11 o12),(FW c),(45,Ac i),(61,pt (w6.heap.size+2)),(74,.slice ax31 (((Gf c i)++[y30.State+4]).length) cp32)] ?_
   refine Dc [(14,o0),(15,o0)] [1,2,8,10,43,44,45,74,76] [] (Dj 16 1) [(1,.slice none 0 0),(2,pt z),(FT w6),(EK w6),(Hw c b11 o12),(FW c),(45,Ac i),(74,.slice ax31 (((Gf c i)++[y30.State+4]).length) cp32),(76,.pointer (some ⟨w6.heap.size+2,2,none⟩))] Ag ?_
   refine Bo 16 ?_
   refine Bq (a1 6) [1,2,8,10,43,44,45] [Qb (w6.heap.size+2)] [(1,.slice none 0 0),(2,pt z),(FT w6),(EK w6),(Hw c b11 o12),(FW c),(45,Ac i)] ⟨w,n33,[(Ak w),(IJ c z),(IW c n2),(mid (n2+1) w6),(Jm w6 lay7),(Ch.blk (w6.heap.size+1) (.map #[] 0) true),(SX w6 c ax19 i y18 cp20 ax31 y30 cp32),(Pi c ax19 i y18 cp20 z),(Sv c i ax31 y30 cp32 z),(LM y18 n9),(Oj y18 n9),(bk n21 #[i6 (y30.State+4)] 3)]⟩ [] ⟨rfl,Ag⟩ (.inl rfl) ?_
   refine D8 17 [0,1,2,3,4,5,6,7,8,9,10,11] [(Ak w),(IJ c z),(IW c n2),(mid (n2+1) w6),(Jm w6 lay7),(Ch.blk (w6.heap.size+1) (.map #[] 0) true),(SX w6 c ax19 i y18 cp20 ax31 y30 cp32),(Pi c ax19 i y18 cp20 z),(Sv c i ax31 y30 cp32 z),(LM y18 n9),(Oj y18 n9),(bk n21 #[i6 (y30.State+4)] 3)] rfl rfl ?_
   refine CV ?_
   refine Ns 4 0 [] [[(ov (i6 ((i+1:Nat):Int))),o0]] [Wr ((i:Int)+1) (((i+1:Nat):Int))] [(1,.slice none 0 0),(2,pt z),(FT w6),(EK w6),(Hw c b11 o12),(FW c),(45,i6 ((i+1:Nat):Int))] rfl ⟨CU,Ag⟩ ?_
   refine Cc [0,1,2,3,4,5,6,7,8] [(Ak w),(IJ c z),(IW c n2),(mid (n2+1) w6),(Jm w6 lay7),(Ch.blk (w6.heap.size+1) (.map #[] 0) true),(SX w6 c ax19 i y18 cp20 ax31 y30 cp32),(Pi c ax19 i y18 cp20 z),(Sv c i ax31 y30 cp32 z)] rfl rfl ?_
   refine Fj [1,2,8,10,43,44,45] [(1,.slice none 0 0),(2,pt z),(FT w6),(EK w6),(MS c),(FW c),(45,i6 ((i+1:Nat):Int))] (by(try dsimp only[SX,QL,OX,IW,Oj,Jm,LM,IJ,Pi,Sv,O4,L8,Hw,MS,FW,EK,FT,Lu]);simp only[ha13];rfl) ?_
   refine Cj (fun a w' hs=>⟨c.Aa.xs.length - (i+1),by omega,n33,(i+1),ax19,cp20,ax31,cp32,rfl,by omega,by omega,(by(try dsimp only[SX,QL,OX,IW,Oj,Jm,LM,IJ,Pi,Sv,O4,L8,Hw,MS,FW,EK,FT,Lu]at hs ⊢);rw[Yo,ZK,←hy18,show c.Kernel*16+25+24*(i:Int)=y30.State+4 from by omega];exact hs)⟩)
  refine A7 16 0 [0] [[oF],[o0,o0,o0]] [BF ((i:Int)<(c.Aa.xs.length:Int))] [(1,.slice none 0 0),(2,pt z),(EK w6),(78,.slice none 0 0),(79,i6 0),(80,i6 0)] rfl ⟨bf,Ag⟩ ?_
  refine DW (fun m a w'=>∃ (n36:Nat),m=0∧n9≤n36∧St 165 [(1,.slice none 0 0),(2,pt z),(EK w6),(78,.slice none 0 0),(79,i6 0),(80,i6 0)] [] ⟨w,n36,(Lu w6 c i aA cA aO cO n2 lay7 z w)⟩ a w') (0) ?_ ?_
  ·intro a w' hs;exact⟨n9,rfl,Nat.le_refl _,hs⟩
  rintro m a w' ⟨n36,rfl,hn35,hs⟩
  refine(?_:G Tryd.prog 165 [(1,.slice none 0 0),(2,pt z),(EK w6),(78,.slice none 0 0),(79,i6 0),(80,i6 0)] [] ⟨w,n36,(Lu w6 c i aA cA aO cO n2 lay7 z w)⟩ _ _ _) a w' hs
  clear hs a w'
  refine A7 17 0 [0] [[o0],[o0,o0,o0]] [] [(EK w6),(144,.slice none 0 0),(145,i6 0),(146,i6 0)] rfl Ag ?_
  refine DW (fun m a w'=>∃ (n38:Nat),m=0∧n36≤n38∧St 165 [(EK w6),(144,.slice none 0 0),(145,i6 0),(146,i6 0)] [] ⟨w,n38,(Lu w6 c i aA cA aO cO n2 lay7 z w)⟩ a w') (0) ?_ ?_
  ·intro a w' hs;exact⟨n36,rfl,Nat.le_refl _,hs⟩
  rintro m a w' ⟨n38,rfl,hn37,hs⟩
  refine(?_:G Tryd.prog 165 [(EK w6),(144,.slice none 0 0),(145,i6 0),(146,i6 0)] [] ⟨w,n38,(Lu w6 c i aA cA aO cO n2 lay7 z w)⟩ _ _ _) a w' hs
  clear hs a w'
  refine A7 16 0 [0] [[o0],[o0,o0,o0]] [] [(4,pt (w6.heap.size+2)),(5,i6 0)] rfl Ag ?_
  refine AX [] [] (.tuple #[pt (w6.heap.size+2),i6 0]) Ag ?_
  intro w39 hw39
  have h4:=hw39.pick [6,7,8,5] rfl rfl
  (try dsimp only[OX,IW,Jm,IJ,O4,L8,MS,FW,EK,FT,Lu]at h4)
  obtain rfl:i=c.Aa.xs.length:=by omega
  rw[SB,V3]at h4
  rw[←hz]
  exact⟨.inr ⟨hF,w6.heap.size+2,w6.heap.size+1,_,_,_,_,w,rfl,(show z≤w6.heap.size+2 by omega),(show z≤w6.heap.size+1 by omega),by rw[hw39.size];exact h4⟩,BC hw39⟩
 refine A7 9 0 [1] [[o0,oT],[o0,o0]] [NT ((Ho c).e) 0] [(4,.pointer none),(5,i6 221)] rfl ⟨nt,Ag⟩ ?_
 refine AX [] [] (.tuple #[.pointer none,i6 221]) Ag ?_
 intro w40 hw40
 exact⟨.inl ⟨h4,rfl⟩,BC hw40⟩
structure OI(nP nW:Nat)(fr:Int)(O A W:List Int):Prop where
 ol:O.length=nP
 al:A.length=nP
 wl:W.length=nW
 pn:nP≤8
 wn:nW≤16384
 fr:((nW / 16:Nat):Int)=fr
 aI:∀ q,q<nP→0≤gd A q∧gd A q<(nW:Int)
 oI:∀ q,q<nP→0≤gd O q∧gd O q≤16
 wI:∀ q,q<nW→0≤gd W q∧gd W q<4294967296
def Jv(O A W:List Int)(p:Int):Int×Int×List Int:=if 0≤p∧p<(A.length:Int)then(if gd O p.toNat≤gd W (gd A p.toNat).toNat then(5,0,W)else(0,0,W.set (gd A p.toNat).toNat (gd W (gd A p.toNat).toNat+1)))else(0,1,W)
def SK(n dp:Nat)(fr:Int)(nP:Nat)(O A:List Int)(aO:Option Addr)(cO:Nat)(aA:Option Addr)(cA:Nat)(ms:Value)(n2 mq:Nat)(aW:Option Addr)(nW cW:Nat)(W:List Int):List Ch:=[.blk dp (.cells #[.int .i64 fr,.slice aO nP cO,.slice aA nP cA,ms] 68 (0,0)) true,CP n 3 1 (fun x:Int=>[Value.int .i64 x]) (.slice aO nP cO) O,CP n 3 1 (fun x:Int=>[Value.int .i64 x]) (.slice aA nP cA) A,.blk mq (.cells #[.slice aW nW cW] 81 (0,0)) true,CP n2 54 1 (fun x:Int=>[Value.int .u32 x]) (.slice aW nW cW) W]
theorem WW{n dp:Nat}{fr:Int}{nP:Nat}{O A:List Int}{aO:Option Addr}{cO:Nat}{aA:Option Addr}{cA:Nat}{ms:Value}{n2 mq:Nat}{aW:Option Addr}{nW cW:Nat}{W:List Int}:∀ c∈SK n dp fr nP O A aO cO aA cA ms n2 mq aW nW cW W,c.rw=true:=fun c hc=>by
 simp only[SK,List.mem_cons,List.not_mem_nil,or_false]at hc
 rcases hc with rfl | rfl | rfl | rfl | rfl <;> rfl
theorem IR{n dp:Nat}{fr:Int}{nP:Nat}{O A:List Int}{aO:Option Addr}{cO:Nat}{aA:Option Addr}{cA:Nat}{ms:Value}{n2 mq:Nat}{aW:Option Addr}{nW cW:Nat}{W W':List Int}{b:Nat}(h:LU (SK n dp fr nP O A aO cO aA cA ms n2 mq aW nW cW W') b):LU (SK n dp fr nP O A aO cO aA cA ms n2 mq aW nW cW W) b:=by
 simp only[LU,SK,List.mem_cons,List.not_mem_nil,or_false,exists_eq_or_imp,exists_eq_left]at h ⊢
 rcases h with h | h | h | h | h
 ·exact .inl h
 ·exact .inr (.inl h)
 ·exact .inr (.inr (.inl h))
 ·exact .inr (.inr (.inr (.inl h)))
 refine .inr (.inr (.inr (.inr ?_)))
 cases aW <;> exact h
def XY(W:List Int)(a:Nat):Nat→List Int
 | 0=>W
 | _+1=>W.set a 0
theorem Gm{W:List Int}{a:Nat}:∀ k,(XY W a k).length=W.length
 | 0=>rfl
 | _+1=>List.length_set
theorem Yv{A:AW}{w:World}(h:Sat A w){i b cp:Nat}{xs:List Int}(h0:Ig (fun x:Int=>[Value.int .i64 x]) 1 (fun _ _ n=>FY .i64 n) Any w ⟨some ⟨b,0,none⟩,cp,xs⟩){o:Obj}{r:Bool}(hi:A.σ[i]? = some (.blk b o r))(js:List Nat){cs:List Ch}(hjs:picks js A.σ=some cs)(hij:js.contains i=false)(hrw:∀ c∈cs,c.rw=true):Ig (fun x:Int=>[Value.int .i64 x]) 1 (fun _ _ n=>FY .i64 n) (fun b=>¬ LU cs b) w ⟨some ⟨b,0,none⟩,cp,xs⟩:=by
 refine⟨⟨h0.1.len,h0.1.le,fun hne => ?_⟩,h0.2⟩
 obtain⟨b',off,ha, -,hh⟩:=h0.1.cells hne
 refine⟨b',off,ha, ?_,hh⟩
 cases ha
 rintro⟨c,hc,hcb⟩
 obtain⟨q,hq,hqs⟩:=KO hjs c hc
 exact J8 h.IX (i:=q) (j:=i) (by rw[List.getElem?_map,hqs];rfl) (by rw[List.getElem?_map,hi];rfl) (fun e=>by subst e;simp[hq]at hij) (hrw c hc) b hcb rfl
theorem Wl{S:Nat→Prop}{w:World}{b k:Nat}{v:Value}(hF:¬ S b)(h:w.cell? ⟨b,k,none⟩=some v):∀ w',(old S w).holds w'→w'.cell? ⟨b,k,none⟩=some v:=Xj h hF
section
variable (dp:Nat)(fr:Int)(aO:Option Addr)(nP cO:Nat)(aA:Option Addr)(cA:Nat)(ms:Value)(mq:Nat)(aW:Option Addr)(nW cW z:Nat)(p:Int)(n2 b24:Nat)(W:List Int)(n b15:Nat)(A:List Int)(b28:Nat)(O:List Int)
abbrev La:=bk dp #[i6 fr,.slice aO nP cO,.slice aA nP cA,ms] 68
abbrev JX:=bk mq #[.slice aW nW cW] 81
abbrev JJ:=CP z 3 1 (fun x:Int=>[i6 x]) (.slice (some ⟨z,0,none⟩) 1 1) ([p]:List Int)
abbrev UO:=CP n2 54 1 (fun x:Int=>[Value.int .u32 x]) (.slice (some ⟨b24,0,none⟩) nW cW) W
abbrev Q3:=CP n 3 1 (fun x:Int=>[i6 x]) (.slice (some ⟨b15,0,none⟩) nP cA) A
abbrev QI:=CP n 3 1 (fun x:Int=>[i6 x]) (.slice (some ⟨b28,0,none⟩) nP cO) O
abbrev JL:=CP n2 54 1 (fun x:Int=>[Value.int .u32 x]) (.slice aW nW cW) W
abbrev JV:=CP n 3 1 (fun x:Int=>[i6 x]) (.slice aO nP cO) O
abbrev KU:=CP n 3 1 (fun x:Int=>[i6 x]) (.slice aA nP cA) A
abbrev Np:CO:=(15,.slice (some ⟨z,0,none⟩) 1 1)
abbrev Iu:=(0,pt dp)
abbrev Iy:=(1,pt mq)
end
theorem JO(w w0:World)(n dp:Nat)(fr:Int)(nP:Nat)(O A:List Int)(aO:Option Addr)(cO:Nat)(aA:Option Addr)(cA:Nat)(ms:Value)(n2 mq:Nat)(aW:Option Addr)(nW cW:Nat)(W:List Int)(hO:Sat ⟨w0,w.heap.size,SK n dp fr nP O A aO cO aA cA ms n2 mq aW nW cW W⟩ w)(S0:Nat→Prop)(hS0:S0=LU (SK n dp fr nP O A aO cO aA cA ms n2 mq aW nW cW W))(hn0:n≤w.heap.size)(hn2:n2≤w.heap.size)(hD:OI nP nW fr O A W)(p:Int)(hp:FY .i64 p):Calls Tryd.prog 12 #[.pointer (some ⟨dp,0,none⟩),.pointer (some ⟨mq,0,none⟩),.int .i64 p] w fun e w'=>e = .returned (.tuple #[.int .i64 (Jv O A W p).1,.int .i64 (Jv O A W p).2.1])∧Sat ⟨w,w'.heap.size,SK n dp fr nP O A aO cO aA cA ms n2 mq aW nW cW (Jv O A W p).2.2⟩ w'∧CJ S0 w w':=by
 obtain⟨z,hz⟩:∃ z,z=w.heap.size:=⟨_,rfl⟩
 refine BP (args:=[pt dp,pt mq,i6 p]) 57 ⟨w,z,[(old S0 w),(La dp fr aO nP cO aA cA ms),(JV aO nP cO n O),(KU nP aA cA n A),(JX mq aW nW cW),(JL aW nW cW n2 W)]⟩ Tryd.func12 rfl (by kernel_rfl) (by kernel_rfl) (hS0 ▸ hz ▸ VV hO WW) ?_
 have hdl:=hD.ol;have hdm:=hD.al;have hdw:=hD.wl;have hdp:=hD.pn;have hdn:=hD.wn;have hdf:=hD.fr;have hpI:(-9223372036854775808:Int)≤p∧p≤9223372036854775807:=hp
 refine DZ [0,1,2] [(Iu dp),(Iy mq),(2,i6 p)] ?_
 refine q_c 7 4 [] [[o0,o0],[o0,o0,o0,o0]] [] [(Iu dp),(Iy mq),(2,i6 p),(10,pt dp),(11,pt mq),(13,.slice (some ⟨z,0,none⟩) 1 1)] ⟨w,z+1,[(old S0 w),(La dp fr aO nP cO aA cA ms),(JV aO nP cO n O),(KU nP aA cA n A),(JX mq aW nW cW),(JL aW nW cW n2 W),(bk z #[i6 p] 3)]⟩ rfl Ag ?_
 refine l_call [] [] 27 #[pt dp,pt mq,.slice (some ⟨z,0,none⟩) 1 1] (some 14) Ag ?_
 intro w1 hw1
 refine BP (args:=[pt dp,pt mq,.slice (some ⟨z,0,none⟩) 1 1]) 40 ⟨w,z+1,[(old S0 w),(La dp fr aO nP cO aA cA ms),(JV aO nP cO n O),(KU nP aA cA n A),(JX mq aW nW cW),(JL aW nW cW n2 W),(bk z #[i6 p] 3)]⟩ Tryd.func27 rfl (by kernel_rfl) (by kernel_rfl) hw1 ?_
 refine A7 18 0 [0] [[o0],[o0,o0,o0,o0,o0,o0],[o0,o0,o0]] [] [(Iu dp),(Iy mq),(Np z),(16,i6 1),(17,i6 0)] rfl Ag ?_
 refine Xu 6 z z 3 1 (fun x:Int=>[i6 x]) ([p]:List Int) #[i6 p] (by omega) (?_:G _ _ _ _ ⟨w,z+1,[(old S0 w),(La dp fr aO nP cO aA cA ms),(JV aO nP cO n O),(KU nP aA cA n A),(JX mq aW nW cW),(JL aW nW cW n2 W),(JJ z p)]⟩ _ _ _)
 refine DW (fun m a w'=>∃ (n3:Nat) (kn:Nat),m=1 - kn∧z+1≤n3∧(kn≤1)∧(kn=0∨(0≤p∧p<(nP:Int)))∧St 40 [(Iu dp),(Iy mq),(Np z),(16,i6 1),(17,Ac kn)] [] ⟨w,n3,[(old S0 w),(La dp fr aO nP cO aA cA ms),(JV aO nP cO n O),(KU nP aA cA n A),(JX mq aW nW cW),(JL aW nW cW n2 W),(JJ z p)]⟩ a w') (1 - 0) ?_ ?_
 ·intro a w' hs;exact⟨(z+1),0,rfl,Nat.le_refl _,Nat.zero_le _,.inl rfl,hs⟩
 rintro m a w' ⟨n3,kn,rfl,hn2,hkkn,hkp,hs⟩
 refine(?_:G Tryd.prog 40 [(Iu dp),(Iy mq),(Np z),(16,i6 1),(17,Ac kn)] [] ⟨w,n3,[(old S0 w),(La dp fr aO nP cO aA cA ms),(JV aO nP cO n O),(KU nP aA cA n A),(JX mq aW nW cW),(JL aW nW cW n2 W),(JJ z p)]⟩ _ _ _) a w' hs
 clear hs a w'
 refine DC ?_
 by_cases h4:(kn:Int)<1
 ·refine A7 14 0 [1] [[oT],[(oi kn),(oa [.via 6 (i6 p)]),o0]] [BT ((kn:Int)<1),Ed kn,kn<1,Dt,∀ w',Ch.holds (JJ z p) w'→w'.cell? ⟨z,0+kn,none⟩=some (i6 p)] [(Iu dp),(Iy mq),(Np z),(16,i6 1),(17,Ac kn),(8,i6 p)] rfl ⟨bt,rfl,(by omega),rfl,FH (sz:=1) (j:=kn) (k:=0) (fun _=>rfl) (by first | omega | (simp only[List.length_cons,List.length_nil];omega) | (rw[Gm];omega) | (rw[List.length_set];omega) | (rw[List.length_set,Gm];omega)) (by rw[show kn=0 by omega];rfl),Ag⟩ ?_
  by_cases h5:(p:Int)<0
  ·refine A7 9 0 [1] [[o0,oT,o0,o0],[o0]] [BT ((p:Int)<0)] [(6,i6 1)] rfl ⟨bt,Ag⟩ ?_
   refine AX [] [] (i6 1) Ag ?_
   intro w6 hw6
   refine⟨_,_,rfl,hw6, ?_⟩
   refine BQ 12 0 [1] [[o0],[o0,o0],[o0,o0,o0]] [] [(6,i6 0),(7,i6 1)] rfl Ag ?_
   refine AX [] [] (.tuple #[i6 0,i6 1]) Ag ?_
   intro w7 hw7
   have h4:=hw7.pick [1,2,3,4,5] rfl rfl
   (try dsimp only[La,JX,JJ,JL,JV,KU,Np,Iu,Iy]at h4)
   (unfold Jv;rw[if_neg (show ¬ (0≤p∧p<(A.length:Int))from by omega)];exact⟨rfl,by rw[hw7.size];exact h4,Sat.back hw7 rfl (show w.heap.size≤n3 by omega) (List.mem_cons_self ..)⟩)
  by_cases h8:(p:Int)<(nP:Int)
  ·refine A7 9 0 [0] [[o0,oF,o0,o0,o0,o0,o0,(a1 1),o0,oF,o0],[(ov (i6 ((kn+1:Nat):Int))),o0]] [BF ((p:Int)<0),Qb dp,BF ((p:Int)≥(nP:Int)),Wr ((kn:Int)+1) (((kn+1:Nat):Int))] [(Iu dp),(Iy mq),(Np z),(16,i6 1),(17,i6 ((kn+1:Nat):Int))] rfl ⟨bf,rfl,bf,CU,Ag⟩ ?_
   refine Cj (fun a w' hs=>⟨1 - (kn+1),by omega,n3,(kn+1),rfl,by omega,by omega,.inr ⟨by omega,by omega⟩,hs⟩)
  refine A7 9 0 [1] [[o0,oF,o0,o0,o0,o0,o0,(a1 1),o0,oT,o0],[o0]] [BF ((p:Int)<0),Qb dp,BT ((p:Int)≥(nP:Int))] [(6,i6 1)] rfl ⟨bf,rfl,bt,Ag⟩ ?_
  refine AX [] [] (i6 1) Ag ?_
  intro w9 hw9
  refine⟨_,_,rfl,hw9, ?_⟩
  refine BQ 12 0 [1] [[o0],[o0,o0],[o0,o0,o0]] [] [(6,i6 0),(7,i6 1)] rfl Ag ?_
  refine AX [] [] (.tuple #[i6 0,i6 1]) Ag ?_
  intro w10 hw10
  have h4:=hw10.pick [1,2,3,4,5] rfl rfl
  (try dsimp only[La,JX,JJ,JL,JV,KU,Np,Iu,Iy]at h4)
  (unfold Jv;rw[if_neg (show ¬ (0≤p∧p<(A.length:Int))from by omega)];exact⟨rfl,by rw[hw10.size];exact h4,Sat.back hw10 rfl (show w.heap.size≤n3 by omega) (List.mem_cons_self ..)⟩)
 refine A7 12 0 [0] [[oF]] [BF ((kn:Int)<1)] [(Iu dp),(Iy mq),(Np z),(16,i6 1),(17,Ac kn),(18,.bool false)] rfl ⟨bf,Ag⟩ ?_
 refine DN 7 [0,1,2,3,4,5,6] [(old S0 w),(La dp fr aO nP cO aA cA ms),(JV aO nP cO n O),(KU nP aA cA n A),(JX mq aW nW cW),(JL aW nW cW n2 W),(JJ z p)] rfl rfl ?_
 refine Dc [(0,o0),(2,o0),(3,o0),(4,o0),(5,(a1 1))] [33,38] [Qb dp] [true,false,true,true,true,true,false] [(33,pt mq),(38,i6 fr)] ⟨rfl,Ag⟩ ?_
 refine Bo 1 ?_
 refine G7 [] [] 51 #[pt mq] (some 34) (by as_aux_lemma=>kernel_rfl) rfl rfl Ag ?_
 intro w11 hw11
 refine BP (args:=[pt mq]) 11 ⟨w,n3,[(old S0 w),(La dp fr aO nP cO aA cA ms),(JV aO nP cO n O),(KU nP aA cA n A),(JX mq aW nW cW),(JL aW nW cW n2 W),(JJ z p)]⟩ Tryd.func51 rfl (by kernel_rfl) (by kernel_rfl) hw11 ?_
 refine A7 17 0 [0] [[o0],[o0,o0],[o0,o0,o0,(a1 4),o0,(ov (i6 ((nW / 16:Nat):Int))),o0]] [Qb mq,Wr (Int.tdiv ((nW:Int)) 16) (((nW / 16:Nat):Int))] [(2,i6 ((nW / 16:Nat):Int))] rfl ⟨rfl,congrArg (Value.int .i64) (SI (by omega) (by omega) (by omega)),Ag⟩ ?_
 refine AX [] [] (i6 ((nW / 16:Nat):Int)) Ag ?_
 intro w12 hw12
 have hs13:=hw12
 refine⟨_,_,rfl,hs13,.inr (fun c hc=>hs13.all c (by first | exact hc | exact DI (is:=[0,1,2,3,4,5,6]) rfl c hc)), ?_⟩
 refine CZ [38,34] [(38,i6 fr),(34,i6 ((nW / 16:Nat):Int))] ?_
 refine Dc [(6,oF)] [39] [NF ((nW / 16:Nat):Int) fr] (Dj 7 0) [(39,.bool false)] ⟨nf,Ag⟩ ?_
 refine CV ?_
 refine Ns 9 0 [0] [[o0]] [] [(6,i6 0)] rfl Ag ?_
 refine AX [] [] (i6 0) Ag ?_
 intro w14 hw14
 refine⟨_,_,rfl,hw14, ?_⟩
 refine BQ 10 0 [0] [[o0],[o0,o0]] [] [(Iu dp),(Iy mq),(2,i6 p),(8,i6 0),(16,.bool false)] rfl Ag ?_
 refine I4 (base:=n) (e:=3) (sz:=1) (cells:=(fun x:Int=>[i6 x])) (a:=aA) (n:=nP) (cap:=cA) (xs:=A) 3 (by omega) (fun b15 hg16 hb17 => ?_)
 subst hg16
 refine Ux ?_
 have hv18:=hD.aI ((p).toNat) (by omega);have hv19:=hD.oI ((p).toNat) (by omega);have hv20:=hD.wI (gd A ((p).toNat)).toNat (by omega)
 refine BQ 0 8 [] [[o0,o0,o0,o0,(a1 1),o0,(oi ((p).toNat)),(oa [.via 3 (i6 (gd A ((p).toNat)))])]] [Qb dp,(p:Int)=(((p).toNat:Nat):Int),(p).toNat<nP,Dt,∀ w',Ch.holds (Q3 nP cA n b15 A) w'→w'.cell? ⟨b15,0+(p).toNat,none⟩=some (i6 (gd A ((p).toNat)))] [(Iu dp),(Iy mq),(2,i6 p),(19,pt mq),(26,i6 (gd A ((p).toNat)))] rfl ⟨rfl,(by omega),(by omega),rfl,FH (sz:=1) (j:=(p).toNat) (k:=0) (fun _=>rfl) (by first | omega | (simp only[List.length_cons,List.length_nil];omega) | (rw[Gm];omega) | (rw[List.length_set];omega) | (rw[List.length_set,Gm];omega)) rfl,Ag⟩ ?_
 refine l_call [] [] 29 #[pt mq,i6 (gd A ((p).toNat))] (some 27) Ag ?_
 intro w21 hw21
 refine BP (args:=[pt mq,i6 (gd A ((p).toNat))]) 20 ⟨w,n3,[(old S0 w),(bk dp #[i6 fr,.slice aO nP cO,.slice (some ⟨b15,0,none⟩) nP cA,ms] 68),(JV aO nP cO n O),(Q3 nP cA n b15 A),(JX mq aW nW cW),(JL aW nW cW n2 W),(JJ z p)]⟩ Tryd.func29 rfl (by kernel_rfl) (by kernel_rfl) hw21 ?_
 refine A7 7 2 [] [[o0,o0],[o0,o0]] [] [(0,pt mq),(1,i6 (gd A ((p).toNat))),(7,pt mq),(8,i6 (gd A ((p).toNat)))] rfl Ag ?_
 refine l_call [] [] 52 #[pt mq,i6 (gd A ((p).toNat)),i6 1] (some 9) Ag ?_
 intro w22 hw22
 refine BP (args:=[pt mq,i6 (gd A ((p).toNat)),i6 1]) 35 ⟨w,n3,[(old S0 w),(bk dp #[i6 fr,.slice aO nP cO,.slice (some ⟨b15,0,none⟩) nP cA,ms] 68),(JV aO nP cO n O),(Q3 nP cA n b15 A),(JX mq aW nW cW),(JL aW nW cW n2 W),(JJ z p)]⟩ Tryd.func52 rfl (by kernel_rfl) (by kernel_rfl) hw22 ?_
 refine A7 25 0 [0,0] [[o0],[o0,o0],[o0,oF,o0,o0,o0,o0,o0,o0,o0,o0,o0,(a1 4),o0,oF,o0,o0,o0,o0,o0,o0,(a1 4),o0,o0,(ov (i6 ((nW:Int) - (gd A ((p).toNat))))),oF,o0],[o0]] [BF (((gd A ((p).toNat)):Int)<0),Qb mq,BF (((gd A ((p).toNat)):Int) > (nW:Int)),Qb mq,Wr ((nW:Int) - (gd A ((p).toNat))) ((nW:Int) - (gd A ((p).toNat))),BF ((1:Int) > ((nW:Int) - (gd A ((p).toNat))))] [(6,i6 0)] rfl ⟨bf,rfl,bf,rfl,CU,bf,Ag⟩ ?_
 refine AX [] [] (i6 0) Ag ?_
 intro w23 hw23
 refine⟨_,_,rfl,hw23, ?_⟩
 refine BQ 10 0 [0] [[o0],[o0,o0]] [] [(0,pt mq),(1,i6 (gd A ((p).toNat))),(6,i6 0),(11,.bool false)] rfl Ag ?_
 refine I4 (base:=n2) (e:=54) (sz:=1) (cells:=(fun x:Int=>[Value.int .u32 x])) (a:=aW) (n:=nW) (cap:=cW) (xs:=W) 5 (by omega) (fun b24 hg25 hb26 => ?_)
 subst hg25
 refine A7 4 0 [] [[o0,o0,o0,(a1 4),o0,(oi (((gd A ((p).toNat))).toNat)),(oa [.via 5 (.int .u32 (gd W (((gd A ((p).toNat))).toNat)))]),o0,o0]] [Qb mq,((gd A ((p).toNat)):Int)=((((gd A ((p).toNat))).toNat:Nat):Int),((gd A ((p).toNat))).toNat<nW,Dt,∀ w',Ch.holds (UO nW cW n2 b24 W) w'→w'.cell? ⟨b24,0+((gd A ((p).toNat))).toNat,none⟩=some (.int .u32 (gd W (((gd A ((p).toNat))).toNat)))] [(4,.int .u32 (gd W (((gd A ((p).toNat))).toNat))),(5,i6 0)] rfl ⟨rfl,(by omega),(by omega),rfl,FH (sz:=1) (j:=((gd A ((p).toNat))).toNat) (k:=0) (fun _=>rfl) (by first | omega | (simp only[List.length_cons,List.length_nil];omega) | (rw[Gm];omega) | (rw[List.length_set];omega) | (rw[List.length_set,Gm];omega)) rfl,Ag⟩ ?_
 refine AX [] [] (.tuple #[.int .u32 (gd W (((gd A ((p).toNat))).toNat)),i6 0]) Ag ?_
 intro w27 hw27
 refine⟨_,_,rfl,hw27, ?_⟩
 refine BQ 10 0 [0] [[o0,o0,o0,o0,o0],[o0,o0,o0]] [] [(Iu dp),(Iy mq),(2,i6 p),(9,.int .u32 (gd W (((gd A ((p).toNat))).toNat))),(7,i6 0),(30,.bool false)] rfl Ag ?_
 refine I4 (base:=n) (e:=3) (sz:=1) (cells:=(fun x:Int=>[i6 x])) (a:=aO) (n:=nP) (cap:=cO) (xs:=O) 2 (by omega) (fun b28 hg29 hb30 => ?_)
 subst hg29
 by_cases h31:((gd W (((gd A ((p).toNat))).toNat)):Int)<(gd O ((p).toNat))
 ·refine A7 9 0 [0] [[o0,(ov (.int .u64 (gd W (((gd A ((p).toNat))).toNat)))),o0,o0,o0,(a1 1),o0,(oi ((p).toNat)),(oa [.via 2 (i6 (gd O ((p).toNat)))]),(ov (.int .u64 (gd O ((p).toNat)))),oF,o0]] [Value.int .u64 (IntKind.u64.wrap ((gd W (((gd A ((p).toNat))).toNat))))=Value.int .u64 ((gd W (((gd A ((p).toNat))).toNat))),Qb dp,(p:Int)=(((p).toNat:Nat):Int),(p).toNat<nP,Dt,∀ w',Ch.holds (QI nP cO n b28 O) w'→w'.cell? ⟨b28,0+(p).toNat,none⟩=some (i6 (gd O ((p).toNat))),Value.int .u64 (IntKind.u64.wrap ((gd O ((p).toNat))))=Value.int .u64 ((gd O ((p).toNat))),BF (((gd W (((gd A ((p).toNat))).toNat)):Int)≥(gd O ((p).toNat)))] [(Iu dp),(Iy mq),(2,i6 p),(9,.int .u32 (gd W (((gd A ((p).toNat))).toNat))),(34,.bool false)] rfl ⟨congrArg (Value.int .u64) (UY rfl (by omega) (by omega)),rfl,(by omega),(by omega),rfl,FH (sz:=1) (j:=(p).toNat) (k:=0) (fun _=>rfl) (by first | omega | (simp only[List.length_cons,List.length_nil];omega) | (rw[Gm];omega) | (rw[List.length_set];omega) | (rw[List.length_set,Gm];omega)) rfl,congrArg (Value.int .u64) (UY rfl (by omega) (by omega)),bf,Ag⟩ ?_
  have hv32:=hD.aI ((p).toNat) (by omega);have hv33:=hD.oI ((p).toNat) (by omega);have hv34:=hD.wI (gd A ((p).toNat)).toNat (by omega)
  refine BQ 0 10 [] [[o0,o0,o0,o0,(a1 1),o0,(oi ((p).toNat)),(oa [.via 3 (i6 (gd A ((p).toNat)))]),o0,(ov (.int .u32 ((gd W (((gd A ((p).toNat))).toNat))+1)))]] [Qb dp,(p:Int)=(((p).toNat:Nat):Int),(p).toNat<nP,Dt,∀ w',Ch.holds (Q3 nP cA n b15 A) w'→w'.cell? ⟨b15,0+(p).toNat,none⟩=some (i6 (gd A ((p).toNat))),Value.int .u32 (IntKind.u32.wrap (((gd W (((gd A ((p).toNat))).toNat)):Int)+1))=Value.int .u32 ((gd W (((gd A ((p).toNat))).toNat))+1)] [(46,pt mq),(53,i6 (gd A ((p).toNat))),(55,.int .u32 ((gd W (((gd A ((p).toNat))).toNat))+1))] rfl ⟨rfl,(by omega),(by omega),rfl,FH (sz:=1) (j:=(p).toNat) (k:=0) (fun _=>rfl) (by first | omega | (simp only[List.length_cons,List.length_nil];omega) | (rw[Gm];omega) | (rw[List.length_set];omega) | (rw[List.length_set,Gm];omega)) rfl,congrArg (Value.int .u32) (wr_u32 (by omega) (by omega) (by omega)),Ag⟩ ?_
  refine l_call [] [] 28 #[pt mq,i6 (gd A ((p).toNat)),.int .u32 ((gd W (((gd A ((p).toNat))).toNat))+1)] (some 56) Ag ?_
  intro w35 hw35
  refine BP (args:=[pt mq,i6 (gd A ((p).toNat)),.int .u32 ((gd W (((gd A ((p).toNat))).toNat))+1)]) 21 ⟨w,n3,[(old S0 w),(bk dp #[i6 fr,.slice (some ⟨b28,0,none⟩) nP cO,.slice (some ⟨b15,0,none⟩) nP cA,ms] 68),(QI nP cO n b28 O),(Q3 nP cA n b15 A),(bk mq #[.slice (some ⟨b24,0,none⟩) nW cW] 81),(UO nW cW n2 b24 W),(JJ z p)]⟩ Tryd.func28 rfl (by kernel_rfl) (by kernel_rfl) hw35 ?_
  refine A7 6 2 [] [[o0],[o0,o0]] [] [(0,pt mq),(1,i6 (gd A ((p).toNat))),(2,.int .u32 ((gd W (((gd A ((p).toNat))).toNat))+1)),(8,pt mq),(9,i6 (gd A ((p).toNat)))] rfl Ag ?_
  refine l_call [] [] 52 #[pt mq,i6 (gd A ((p).toNat)),i6 1] (some 10) Ag ?_
  intro w36 hw36
  refine BP (args:=[pt mq,i6 (gd A ((p).toNat)),i6 1]) 35 ⟨w,n3,[(old S0 w),(bk dp #[i6 fr,.slice (some ⟨b28,0,none⟩) nP cO,.slice (some ⟨b15,0,none⟩) nP cA,ms] 68),(QI nP cO n b28 O),(Q3 nP cA n b15 A),(bk mq #[.slice (some ⟨b24,0,none⟩) nW cW] 81),(UO nW cW n2 b24 W),(JJ z p)]⟩ Tryd.func52 rfl (by kernel_rfl) (by kernel_rfl) hw36 ?_
  refine A7 25 0 [0,0] [[o0],[o0,o0],[o0,oF,o0,o0,o0,o0,o0,o0,o0,o0,o0,(a1 4),o0,oF,o0,o0,o0,o0,o0,o0,(a1 4),o0,o0,(ov (i6 ((nW:Int) - (gd A ((p).toNat))))),oF,o0],[o0]] [BF (((gd A ((p).toNat)):Int)<0),Qb mq,BF (((gd A ((p).toNat)):Int) > (nW:Int)),Qb mq,Wr ((nW:Int) - (gd A ((p).toNat))) ((nW:Int) - (gd A ((p).toNat))),BF ((1:Int) > ((nW:Int) - (gd A ((p).toNat))))] [(6,i6 0)] rfl ⟨bf,rfl,bf,rfl,CU,bf,Ag⟩ ?_
  refine AX [] [] (i6 0) Ag ?_
  intro w37 hw37
  refine⟨_,_,rfl,hw37, ?_⟩
  refine BQ 9 7 [1] [[o0],[o0,o0],[o0,o0,o0,(a1 4),o0,o0,(oi (((gd A ((p).toNat))).toNat))]] [Qb mq,((gd A ((p).toNat)):Int)=((((gd A ((p).toNat))).toNat:Nat):Int),((gd A ((p).toNat))).toNat<nW,Dt] [(7,i6 0),(18,.int .u32 ((gd W (((gd A ((p).toNat))).toNat))+1)),(19,.pointer (some ⟨b24,0+((gd A ((p).toNat))).toNat,none⟩))] rfl ⟨rfl,(by omega),(by omega),rfl,Ag⟩ ?_
  refine Xa 5 (((gd A ((p).toNat))).toNat) 0 W ((gd W (((gd A ((p).toNat))).toNat))+1) (fun x:Int=>[Value.int .u32 x]) n2 54 1 b24 nW cW (.int .u32 ((gd W (((gd A ((p).toNat))).toNat))+1)) none (by first | omega | (simp only[List.length_cons,List.length_nil];omega) | (rw[Gm];omega) | (rw[List.length_set];omega) | (rw[List.length_set,Gm];omega)) rfl ?_
  refine BQ 7 0 [] [[],[o0,o0]] [] [(6,i6 0)] rfl Ag ?_
  refine AX [] [] (i6 0) Ag ?_
  intro w38 hw38
  refine⟨_,_,rfl,hw38, ?_⟩
  refine BQ 3 0 [] [[o0,o0]] [] [(6,i6 0),(7,i6 0)] rfl Ag ?_
  refine AX [] [] (.tuple #[i6 0,i6 0]) Ag ?_
  intro w39 hw39
  have h4:=hw39.pick [1,2,3,4,5] rfl rfl
  (try dsimp only[La,JX,JJ,UO,Q3,QI,JL,JV,KU,Np,Iu,Iy]at h4)
  (unfold Jv;rw[if_pos (show 0≤p∧p<(A.length:Int)from⟨by omega,by omega⟩),if_neg (show ¬ gd O p.toNat≤gd W (gd A p.toNat).toNat from by omega)];exact⟨rfl,by rw[hw39.size];exact h4,Sat.back hw39 rfl (show w.heap.size≤n3 by omega) (List.mem_cons_self ..)⟩)
 refine A7 9 0 [1] [[o0,(ov (.int .u64 (gd W (((gd A ((p).toNat))).toNat)))),o0,o0,o0,(a1 1),o0,(oi ((p).toNat)),(oa [.via 2 (i6 (gd O ((p).toNat)))]),(ov (.int .u64 (gd O ((p).toNat)))),oT,o0],[o0,o0]] [Value.int .u64 (IntKind.u64.wrap ((gd W (((gd A ((p).toNat))).toNat))))=Value.int .u64 ((gd W (((gd A ((p).toNat))).toNat))),Qb dp,(p:Int)=(((p).toNat:Nat):Int),(p).toNat<nP,Dt,∀ w',Ch.holds (QI nP cO n b28 O) w'→w'.cell? ⟨b28,0+(p).toNat,none⟩=some (i6 (gd O ((p).toNat))),Value.int .u64 (IntKind.u64.wrap ((gd O ((p).toNat))))=Value.int .u64 ((gd O ((p).toNat))),BT (((gd W (((gd A ((p).toNat))).toNat)):Int)≥(gd O ((p).toNat)))] [(6,i6 5),(7,i6 0)] rfl ⟨congrArg (Value.int .u64) (UY rfl (by omega) (by omega)),rfl,(by omega),(by omega),rfl,FH (sz:=1) (j:=(p).toNat) (k:=0) (fun _=>rfl) (by first | omega | (simp only[List.length_cons,List.length_nil];omega) | (rw[Gm];omega) | (rw[List.length_set];omega) | (rw[List.length_set,Gm];omega)) rfl,congrArg (Value.int .u64) (UY rfl (by omega) (by omega)),bt,Ag⟩ ?_
 refine AX [] [] (.tuple #[i6 5,i6 0]) Ag ?_
 intro w40 hw40
 have h4:=hw40.pick [1,2,3,4,5] rfl rfl
 (try dsimp only[La,JX,JJ,QI,JL,JV,KU,Np,Iu,Iy]at h4)
 (unfold Jv;rw[if_pos (show 0≤p∧p<(A.length:Int)from⟨by omega,by omega⟩),if_pos (show gd O p.toNat≤gd W (gd A p.toNat).toNat from by omega)];exact⟨rfl,by rw[hw40.size];exact h4,Sat.back hw40 rfl (show w.heap.size≤n3 by omega) (List.mem_cons_self ..)⟩)
section
variable (dp:Nat)(fr:Int)(aO:Option Addr)(nP cO:Nat)(aA:Option Addr)(cA:Nat)(ms:Value)(mq:Nat)(aW:Option Addr)(nW cW n2:Nat)(W A:List Int)(p:Int)(kb n b28:Nat)(O:List Int)(b20 o21:Nat)(l:Sl Int)
abbrev KD:=bk dp #[i6 fr,.slice aO nP cO,.slice aA nP cA,ms] 68
abbrev J3:=bk mq #[.slice aW nW cW] 81
abbrev Qj:=CP n2 54 1 (fun x:Int=>[Value.int .u32 x]) (.slice aW nW cW) (XY W (gd A p.toNat).toNat kb)
abbrev U8:=CP n 3 1 (fun x:Int=>[i6 x]) (.slice (some ⟨b28,0,none⟩) nP cA) A
abbrev MG:=CP n2 54 1 (fun x:Int=>[Value.int .u32 x]) (.slice aW nW cW) W
abbrev J9:=CP n 3 1 (fun x:Int=>[i6 x]) (.slice aO nP cO) O
abbrev KC:=CP n 3 1 (fun x:Int=>[i6 x]) (.slice aA nP cA) A
abbrev Qw:CO:=(18,.slice (some ⟨b20,o21,none⟩) l.xs.length l.cap)
abbrev Kz:=(16,Ac l.xs.length)
abbrev KW:=(19,Ac l.xs.length)
abbrev FM:=(0,pt dp)
abbrev FI:=(1,pt mq)
abbrev Kr:CO:=(15,.slice l.a l.xs.length l.cap)
end
theorem Zx(w w0:World)(n dp:Nat)(fr:Int)(nP:Nat)(O A:List Int)(aO:Option Addr)(cO:Nat)(aA:Option Addr)(cA:Nat)(ms:Value)(n2 mq:Nat)(aW:Option Addr)(nW cW:Nat)(W:List Int)(hO:Sat ⟨w0,w.heap.size,SK n dp fr nP O A aO cO aA cA ms n2 mq aW nW cW W⟩ w)(S0:Nat→Prop)(hS0:S0=LU (SK n dp fr nP O A aO cO aA cA ms n2 mq aW nW cW W))(hn0:n≤w.heap.size)(hn2:n2≤w.heap.size)(hD:OI nP nW fr O A W)(p:Int)(hp1:0≤p)(hp2:p<(nP:Int))(l:Sl Int)(hl:Ig (fun x:Int=>[Value.int .i64 x]) 1 (fun _ _ n=>FY .i64 n) (fun b=>¬ S0 b) w l)(hlx:l.xs=[p]):Calls Tryd.prog 11 #[.pointer (some ⟨dp,0,none⟩),.pointer (some ⟨mq,0,none⟩),.slice l.a l.xs.length l.cap] w fun e w'=>e = .returned (.int .i64 0)∧Sat ⟨w,w'.heap.size,SK n dp fr nP O A aO cO aA cA ms n2 mq aW nW cW (W.set (gd A p.toNat).toNat 0)⟩ w'∧CJ S0 w w':=by
 obtain⟨z,hz⟩:∃ z,z=w.heap.size:=⟨_,rfl⟩
 refine BP (args:=[pt dp,pt mq,.slice l.a l.xs.length l.cap]) 37 ⟨w,z,[(old S0 w),(KD dp fr aO nP cO aA cA ms),(J9 aO nP cO n O),(KC nP aA cA A n),(J3 mq aW nW cW),(MG aW nW cW n2 W)]⟩ Tryd.func11 rfl (by kernel_rfl) (by kernel_rfl) (hS0 ▸ hz ▸ VV hO WW) ?_
 have hdl:=hD.ol;have hdm:=hD.al;have hdw:=hD.wl;have hdp:=hD.pn;have hdn:=hD.wn;have hdf:=hD.fr;have hll:l.xs.length=1:=by rw[hlx];rfl
 refine DZ [0,1,2] [(FM dp),(FI mq),(2,.slice l.a l.xs.length l.cap)] ?_
 refine A7 7 3 [] [[o0],[o0,o0,o0]] [] [(FM dp),(FI mq),(2,.slice l.a l.xs.length l.cap),(11,pt dp),(12,pt mq),(13,.slice l.a l.xs.length l.cap)] rfl Ag ?_
 refine l_call [] [] 27 #[pt dp,pt mq,.slice l.a l.xs.length l.cap] (some 14) Ag ?_
 intro w1 hw1
 refine BP (args:=[pt dp,pt mq,.slice l.a l.xs.length l.cap]) 40 ⟨w,z,[(old S0 w),(KD dp fr aO nP cO aA cA ms),(J9 aO nP cO n O),(KC nP aA cA A n),(J3 mq aW nW cW),(MG aW nW cW n2 W)]⟩ Tryd.func27 rfl (by kernel_rfl) (by kernel_rfl) hw1 ?_
 refine A7 18 0 [0] [[o0],[o0,o0,o0,o0,o0,o0],[o0,o0,o0]] [] [(FM dp),(FI mq),(Kr l),(Kz l),(17,i6 0)] rfl Ag ?_
 refine DW (fun m a w'=>∃ (n3:Nat) (kn:Nat),m=1 - kn∧z≤n3∧(kn≤1)∧St 40 [(FM dp),(FI mq),(Kr l),(Kz l),(17,Ac kn)] [] ⟨w,n3,[(old S0 w),(KD dp fr aO nP cO aA cA ms),(J9 aO nP cO n O),(KC nP aA cA A n),(J3 mq aW nW cW),(MG aW nW cW n2 W)]⟩ a w') (1 - 0) ?_ ?_
 ·intro a w' hs;exact⟨z,0,rfl,Nat.le_refl _,Nat.zero_le _,hs⟩
 rintro m a w' ⟨n3,kn,rfl,hn2,hkkn,hs⟩
 refine(?_:G Tryd.prog 40 [(FM dp),(FI mq),(Kr l),(Kz l),(17,Ac kn)] [] ⟨w,n3,[(old S0 w),(KD dp fr aO nP cO aA cA ms),(J9 aO nP cO n O),(KC nP aA cA A n),(J3 mq aW nW cW),(MG aW nW cW n2 W)]⟩ _ _ _) a w' hs
 clear hs a w'
 refine DC ?_
 by_cases h4:(kn:Int)<(l.xs.length:Int)
 ·refine A7 10 0 [1] [[oT]] [BT ((kn:Int)<(l.xs.length:Int))] [(FM dp),(FI mq),(Kr l),(Kz l),(17,Ac kn),(18,.bool true)] rfl ⟨bt,Ag⟩ ?_
  obtain⟨b5,o6,ha7,hF9,hc8⟩:=(hl).1.all (show 0<l.xs.length by omega)
  replace ha7:l.a=some ⟨b5,o6,none⟩:=ha7
  refine IM [(FM dp),(FI mq),(15,.slice (some ⟨b5,o6,none⟩) l.xs.length l.cap),(Kz l),(17,Ac kn),(18,.bool true)] (by(try dsimp only[KD,J3,MG,J9,KC,Kz,FM,FI,Kr]);simp only[ha7]) ?_
  have hc10:=hc8 kn (show kn<l.xs.length by omega)
  have he11:=(hl).2 kn (show kn<l.xs.length by omega)
  obtain⟨y12,hy12⟩:∃ y_,y_=gd l.xs kn:=⟨_,rfl⟩
  rw[←hy12]at he11 hc10
  have hqy12:y12=p:=by rw[hy12,hlx];first | (rw[show kn=0 from by omega];rfl) | (rw[show kb=0 from by omega];rfl)
  refine A7 13 0 [0] [[(oi kn),(oa [.via 0 (i6 y12)]),o0],[o0,oF,o0,o0,o0,o0,o0,(a1 1),o0,oF,o0],[(ov (i6 ((kn+1:Nat):Int))),o0]] [Ed kn,kn<l.xs.length,Dt,∀ w',Ch.holds (old S0 w) w'→w'.cell? ⟨b5,o6+kn,none⟩=some (i6 y12),BF ((y12:Int)<0),Qb dp,BF ((y12:Int)≥(nP:Int)),Wr ((kn:Int)+1) (((kn+1:Nat):Int))] [(FM dp),(FI mq),(15,.slice (some ⟨b5,o6,none⟩) l.xs.length l.cap),(Kz l),(17,i6 ((kn+1:Nat):Int))] rfl ⟨rfl,(by omega),rfl,Wl hF9 (hc10 0 _ rfl),bf,rfl,bf,CU,Ag⟩ ?_
  refine Fj [0,1,15,16,17] [(FM dp),(FI mq),(Kr l),(Kz l),(17,i6 ((kn+1:Nat):Int))] (by(try dsimp only[KD,J3,MG,J9,KC,Kz,FM,FI,Kr]);simp only[ha7];rfl) ?_
  refine Cj (fun a w' hs=>⟨1 - (kn+1),by omega,n3,(kn+1),rfl,by omega,by omega,hs⟩)
 refine A7 12 0 [0] [[oF]] [BF ((kn:Int)<(l.xs.length:Int))] [(FM dp),(FI mq),(Kr l),(Kz l),(17,Ac kn),(18,.bool false)] rfl ⟨bf,Ag⟩ ?_
 refine DN 7 [0,1,2,3,4,5] [(old S0 w),(KD dp fr aO nP cO aA cA ms),(J9 aO nP cO n O),(KC nP aA cA A n),(J3 mq aW nW cW),(MG aW nW cW n2 W)] rfl rfl ?_
 refine Dc [(0,o0),(2,o0),(3,o0),(4,o0),(5,(a1 1))] [33,38] [Qb dp] [true,false,true,true,true,true,false] [(33,pt mq),(38,i6 fr)] ⟨rfl,Ag⟩ ?_
 refine Bo 1 ?_
 refine G7 [] [] 51 #[pt mq] (some 34) (by as_aux_lemma=>kernel_rfl) rfl rfl Ag ?_
 intro w13 hw13
 refine BP (args:=[pt mq]) 11 ⟨w,n3,[(old S0 w),(KD dp fr aO nP cO aA cA ms),(J9 aO nP cO n O),(KC nP aA cA A n),(J3 mq aW nW cW),(MG aW nW cW n2 W)]⟩ Tryd.func51 rfl (by kernel_rfl) (by kernel_rfl) hw13 ?_
 refine A7 17 0 [0] [[o0],[o0,o0],[o0,o0,o0,(a1 4),o0,(ov (i6 ((nW / 16:Nat):Int))),o0]] [Qb mq,Wr (Int.tdiv ((nW:Int)) 16) (((nW / 16:Nat):Int))] [(2,i6 ((nW / 16:Nat):Int))] rfl ⟨rfl,congrArg (Value.int .i64) (SI (by omega) (by omega) (by omega)),Ag⟩ ?_
 refine AX [] [] (i6 ((nW / 16:Nat):Int)) Ag ?_
 intro w14 hw14
 have hs15:=hw14
 refine⟨_,_,rfl,hs15,.inr (fun c hc=>hs15.all c (by first | exact hc | exact DI (is:=[0,1,2,3,4,5]) rfl c hc)), ?_⟩
 refine CZ [38,34] [(38,i6 fr),(34,i6 ((nW / 16:Nat):Int))] ?_
 refine Dc [(6,oF)] [39] [NF ((nW / 16:Nat):Int) fr] (Dj 7 0) [(39,.bool false)] ⟨nf,Ag⟩ ?_
 refine CV ?_
 refine Ns 9 0 [0] [[o0]] [] [(6,i6 0)] rfl Ag ?_
 refine AX [] [] (i6 0) Ag ?_
 intro w16 hw16
 refine⟨_,_,rfl,hw16, ?_⟩
 refine BQ 15 0 [0] [[o0],[o0,o0],[o0,o0,o0]] [] [(FM dp),(FI mq),(18,.slice l.a l.xs.length l.cap),(KW l),(20,i6 0)] rfl Ag ?_
 refine DW (fun m a w'=>∃ (n18:Nat) (kb:Nat),m=1 - kb∧n3≤n18∧(kb≤1)∧St 37 [(FM dp),(FI mq),(18,.slice l.a l.xs.length l.cap),(KW l),(20,Ac kb)] [] ⟨w,n18,[(old S0 w),(KD dp fr aO nP cO aA cA ms),(J9 aO nP cO n O),(KC nP aA cA A n),(J3 mq aW nW cW),(Qj aW nW cW n2 W A p kb)]⟩ a w') (1 - 0) ?_ ?_
 ·intro a w' hs;exact⟨n3,0,rfl,Nat.le_refl _,Nat.zero_le _,hs⟩
 rintro m a w' ⟨n18,kb,rfl,hn17,hkkb,hs⟩
 refine(?_:G Tryd.prog 37 [(FM dp),(FI mq),(18,.slice l.a l.xs.length l.cap),(KW l),(20,Ac kb)] [] ⟨w,n18,[(old S0 w),(KD dp fr aO nP cO aA cA ms),(J9 aO nP cO n O),(KC nP aA cA A n),(J3 mq aW nW cW),(Qj aW nW cW n2 W A p kb)]⟩ _ _ _) a w' hs
 clear hs a w'
 have hbl:=Gm (W:=W) (a:=(gd A p.toNat).toNat) kb
 refine DC ?_
 by_cases h19:(kb:Int)<(l.xs.length:Int)
 ·refine A7 10 0 [1] [[oT]] [BT ((kb:Int)<(l.xs.length:Int))] [(FM dp),(FI mq),(18,.slice l.a l.xs.length l.cap),(KW l),(20,Ac kb),(21,.bool true)] rfl ⟨bt,Ag⟩ ?_
  obtain⟨b20,o21,ha22,hF24,hc23⟩:=(hl).1.all (show 0<l.xs.length by omega)
  replace ha22:l.a=some ⟨b20,o21,none⟩:=ha22
  refine IM [(FM dp),(FI mq),(Qw b20 o21 l),(KW l),(20,Ac kb),(21,.bool true)] (by(try dsimp only[KD,J3,Qj,MG,J9,KC,Qw,Kz,KW,FM,FI,Kr]);simp only[ha22]) ?_
  have hc25:=hc23 kb (show kb<l.xs.length by omega)
  have he26:=(hl).2 kb (show kb<l.xs.length by omega)
  obtain⟨y27,hy27⟩:∃ y_,y_=gd l.xs kb:=⟨_,rfl⟩
  rw[←hy27]at he26 hc25
  have hqy27:y27=p:=by rw[hy27,hlx];first | (rw[show kn=0 from by omega];rfl) | (rw[show kb=0 from by omega];rfl)
  refine A7 4 0 [] [[(oi kb),(oa [.via 0 (i6 y27)]),o0]] [Ed kb,kb<l.xs.length,Dt,∀ w',Ch.holds (old S0 w) w'→w'.cell? ⟨b20,o21+kb,none⟩=some (i6 y27)] [(FM dp),(FI mq),(Qw b20 o21 l),(KW l),(20,Ac kb),(9,i6 y27)] rfl ⟨rfl,(by omega),rfl,Wl hF24 (hc25 0 _ rfl),Ag⟩ ?_
  refine I4 (base:=n) (e:=3) (sz:=1) (cells:=(fun x:Int=>[i6 x])) (a:=aA) (n:=nP) (cap:=cA) (xs:=A) 3 (by omega) (fun b28 hg29 hb30 => ?_)
  subst hg29
  refine Ux ?_
  have hv31:=hD.aI ((y27).toNat) (by omega);have hv32:=hD.oI ((y27).toNat) (by omega);have hv33:=hD.wI (gd A ((y27).toNat)).toNat (by omega)
  refine BQ 0 8 [] [[o0,o0,o0,o0,(a1 1),o0,(oi ((y27).toNat)),(oa [.via 3 (i6 (gd A ((y27).toNat)))])]] [Qb dp,(y27:Int)=(((y27).toNat:Nat):Int),(y27).toNat<nP,Dt,∀ w',Ch.holds (U8 nP cA A n b28) w'→w'.cell? ⟨b28,0+(y27).toNat,none⟩=some (i6 (gd A ((y27).toNat)))] [(FM dp),(FI mq),(Qw b20 o21 l),(KW l),(20,Ac kb),(24,pt mq),(31,i6 (gd A ((y27).toNat)))] rfl ⟨rfl,(by omega),(by omega),rfl,FH (sz:=1) (j:=(y27).toNat) (k:=0) (fun _=>rfl) (by first | omega | (simp only[List.length_cons,List.length_nil];omega) | (rw[Gm];omega) | (rw[List.length_set];omega) | (rw[List.length_set,Gm];omega)) rfl,Ag⟩ ?_
  refine l_call [] [] 28 #[pt mq,i6 (gd A ((y27).toNat)),.int .u32 0] (some 32) Ag ?_
  intro w34 hw34
  refine BP (args:=[pt mq,i6 (gd A ((y27).toNat)),.int .u32 0]) 21 ⟨w,n18,[(old S0 w),(bk dp #[i6 fr,.slice aO nP cO,.slice (some ⟨b28,0,none⟩) nP cA,ms] 68),(J9 aO nP cO n O),(U8 nP cA A n b28),(J3 mq aW nW cW),(Qj aW nW cW n2 W A p kb)]⟩ Tryd.func28 rfl (by kernel_rfl) (by kernel_rfl) hw34 ?_
  refine A7 6 2 [] [[o0],[o0,o0]] [] [(0,pt mq),(1,i6 (gd A ((y27).toNat))),(2,.int .u32 0),(8,pt mq),(9,i6 (gd A ((y27).toNat)))] rfl Ag ?_
  refine l_call [] [] 52 #[pt mq,i6 (gd A ((y27).toNat)),i6 1] (some 10) Ag ?_
  intro w35 hw35
  refine BP (args:=[pt mq,i6 (gd A ((y27).toNat)),i6 1]) 35 ⟨w,n18,[(old S0 w),(bk dp #[i6 fr,.slice aO nP cO,.slice (some ⟨b28,0,none⟩) nP cA,ms] 68),(J9 aO nP cO n O),(U8 nP cA A n b28),(J3 mq aW nW cW),(Qj aW nW cW n2 W A p kb)]⟩ Tryd.func52 rfl (by kernel_rfl) (by kernel_rfl) hw35 ?_
  refine A7 25 0 [0,0] [[o0],[o0,o0],[o0,oF,o0,o0,o0,o0,o0,o0,o0,o0,o0,(a1 4),o0,oF,o0,o0,o0,o0,o0,o0,(a1 4),o0,o0,(ov (i6 ((nW:Int) - (gd A ((y27).toNat))))),oF,o0],[o0]] [BF (((gd A ((y27).toNat)):Int)<0),Qb mq,BF (((gd A ((y27).toNat)):Int) > (nW:Int)),Qb mq,Wr ((nW:Int) - (gd A ((y27).toNat))) ((nW:Int) - (gd A ((y27).toNat))),BF ((1:Int) > ((nW:Int) - (gd A ((y27).toNat))))] [(6,i6 0)] rfl ⟨bf,rfl,bf,rfl,CU,bf,Ag⟩ ?_
  refine AX [] [] (i6 0) Ag ?_
  intro w36 hw36
  refine⟨_,_,rfl,hw36, ?_⟩
  refine BQ 8 0 [1] [[o0],[o0,o0]] [] [(0,pt mq),(1,i6 (gd A ((y27).toNat))),(2,.int .u32 0),(7,i6 0),(12,.bool true)] rfl Ag ?_
  refine I4 (base:=n2) (e:=54) (sz:=1) (cells:=(fun x:Int=>[Value.int .u32 x])) (a:=aW) (n:=nW) (cap:=cW) (xs:=(XY W (gd A p.toNat).toNat kb)) 5 (by omega) (fun b37 hg38 hb39 => ?_)
  subst hg38
  refine A7 1 7 [] [[o0,o0,o0,(a1 4),o0,o0,(oi (((gd A ((y27).toNat))).toNat))]] [Qb mq,((gd A ((y27).toNat)):Int)=((((gd A ((y27).toNat))).toNat:Nat):Int),((gd A ((y27).toNat))).toNat<nW,Dt] [(7,i6 0),(18,.int .u32 0),(19,.pointer (some ⟨b37,0+((gd A ((y27).toNat))).toNat,none⟩))] rfl ⟨rfl,(by omega),(by omega),rfl,Ag⟩ ?_
  refine Xa 5 (((gd A ((y27).toNat))).toNat) 0 (XY W (gd A p.toNat).toNat kb) 0 (fun x:Int=>[Value.int .u32 x]) n2 54 1 b37 nW cW (.int .u32 0) none (by first | omega | (simp only[List.length_cons,List.length_nil];omega) | (rw[Gm];omega) | (rw[List.length_set];omega) | (rw[List.length_set,Gm];omega)) rfl ?_
  refine BQ 7 0 [] [[],[o0,o0]] [] [(6,i6 0)] rfl Ag ?_
  refine AX [] [] (i6 0) Ag ?_
  intro w40 hw40
  refine⟨_,_,rfl,hw40, ?_⟩
  refine BQ 12 0 [0] [[o0],[o0,o0],[(ov (i6 ((kb+1:Nat):Int))),o0]] [Wr ((kb:Int)+1) (((kb+1:Nat):Int))] [(FM dp),(FI mq),(Qw b20 o21 l),(KW l),(20,i6 ((kb+1:Nat):Int))] rfl ⟨CU,Ag⟩ ?_
  refine Fj [0,1,18,19,20] [(FM dp),(FI mq),(18,.slice l.a l.xs.length l.cap),(KW l),(20,i6 ((kb+1:Nat):Int))] (by(try dsimp only[KD,J3,Qj,U8,MG,J9,KC,Qw,Kz,KW,FM,FI,Kr]);simp only[ha22];rfl) ?_
  refine Cj (fun a w' hs=>⟨1 - (kb+1),by omega,n18,(kb+1),rfl,by omega,by omega,(by have e:kb=0:=(by omega);subst e;rw[hqy27]at hs;exact hs)⟩)
 refine A7 15 0 [0] [[oF],[o0]] [BF ((kb:Int)<(l.xs.length:Int))] [(6,i6 0)] rfl ⟨bf,Ag⟩ ?_
 refine AX [] [] (i6 0) Ag ?_
 intro w41 hw41
 have h4:=hw41.pick [1,2,3,4,5] rfl rfl
 (try dsimp only[KD,J3,Qj,MG,J9,KC,Qw,Kz,KW,FM,FI,Kr]at h4)
 obtain rfl:kb=1:=by omega
 exact⟨rfl,by rw[hw41.size];exact h4,Sat.back hw41 rfl (show w.heap.size≤n18 by omega) (List.mem_cons_self ..)⟩
section
variable {nP nW:Nat}{fr:Int}{O A W:List Int}{p:Int}
theorem UT(h:OI nP nW fr O A W){a:Nat}{v:Int}(hv:0≤v∧v<4294967296):OI nP nW fr O A (W.set a v) :=
 ⟨h.ol,h.al,by rw[List.length_set];exact h.wl,h.pn,h.wn,h.fr,h.aI,h.oI,fun q hq=>by
  have hl:=h.wl
  by_cases e:q=a
  ·subst e;rw[Ou (by omega)];exact hv
  rw[Q7 (Ne.symm e) (by omega)];exact h.wI q hq⟩
theorem UM(h:OI nP nW fr O A W)(h1:0≤p)(h2:p<(nP:Int))(hg:gd O p.toNat≤gd W (gd A p.toNat).toNat):Jv O A W p=(5,0,W):=by
 have ha:=h.al
 unfold Jv;rw[if_pos (show 0≤p∧p<(A.length:Int)from⟨h1,by omega⟩),if_pos hg]
theorem Qx(h:OI nP nW fr O A W)(h1:0≤p)(h2:p<(nP:Int))(hg:gd W (gd A p.toNat).toNat<gd O p.toNat):Jv O A W p=(0,0,W.set (gd A p.toNat).toNat (gd W (gd A p.toNat).toNat+1)):=by
 have ha:=h.al
 unfold Jv;rw[if_pos (show 0≤p∧p<(A.length:Int)from⟨h1,by omega⟩),if_neg (by omega)]
theorem U0(h:OI nP nW fr O A W):OI nP nW fr O A (Jv O A W p).2.2:=by
 have ha:=h.al
 unfold Jv
 by_cases h1:0≤p∧p<(A.length:Int)
 ·rw[if_pos h1]
  by_cases h2:gd O p.toNat≤gd W (gd A p.toNat).toNat
  ·rw[if_pos h2];exact h
  rw[if_neg h2]
  have h3:=h.oI p.toNat (by omega);have h4:=h.aI p.toNat (by omega);have h5:=h.wI (gd A p.toNat).toNat (by omega)
  exact UT h ⟨by omega,by omega⟩
 rw[if_neg h1];exact h
theorem Zp(h:OI nP nW fr O A W){q:Nat}(hq:q<nP)(hne:p≠(q:Int))(hinj:∀ k,k<nP→k≠q→gd A k≠gd A q):gd (Jv O A W p).2.2 (gd A q).toNat=gd W (gd A q).toNat:=by
 have ha:=h.al;have hl:=h.wl
 unfold Jv
 by_cases h1:0≤p∧p<(A.length:Int)
 ·rw[if_pos h1]
  by_cases h2:gd O p.toNat≤gd W (gd A p.toNat).toNat
  ·rw[if_pos h2]
  rw[if_neg h2]
  have h4:=h.aI p.toNat (by omega);have h5:=h.aI q hq;have h6:=hinj p.toNat (by omega) (by omega)
  exact Q7 (by omega) (by omega)
 rw[if_neg h1]
end
theorem YH{n q:Nat}(h:q<n):gd (List.replicate n (0:Int)) q=0:=by rw[Gq (by simpa using h)];simp
theorem Xt{n mq nW cW m:Nat}{aW:Option Addr}{W:List Int}{w0 w:World}(h:Sat ⟨w0,m,Yd n mq aW nW cW W⟩ w)(hq:n≤mq):∀ c∈Yd n mq aW nW cW W,∀ b,c.F b→n≤b:=by
 intro x hx b hb
 have hh:=h.all x hx
 simp only[Yd,List.mem_cons,List.not_mem_nil,or_false]at hx
 rcases hx with rfl | rfl
 ·have hb':b=mq:=hb
  omega
 exact V4 hh b hb
theorem ZU{n dp mp nP cO cA m:Nat}{fr:Int}{O A:List Int}{aO aA:Option Addr}{w0 w:World}(h:Sat ⟨w0,m,Y5 n dp mp fr nP O A aO cO aA cA⟩ w)(hd:n≤dp)(hm:n≤mp):∀ c∈Y5 n dp mp fr nP O A aO cO aA cA,∀ b,c.F b→n≤b:=by
 intro x hx b hb
 have hh:=h.all x hx
 simp only[Y5,List.mem_cons,List.not_mem_nil,or_false]at hx
 rcases hx with rfl | rfl | rfl | rfl
 ·have hb':b=dp:=hb
  omega
 ·exact V4 hh b hb
 ·exact V4 hh b hb
 have hb':b=mp:=hb
 omega
theorem all1{p:Nat→Prop}(h:p 0):∀ q,q<1→p q:=fun q hq=>by rw[show q=0 by omega];exact h
theorem RH:OI 1 256 16 [1] [153] (List.replicate 256 0):=⟨rfl,rfl,List.length_replicate,by decide,by decide,by decide,all1 (by decide),all1 (by decide),fun q hq=>by rw[YH hq];decide⟩
theorem Yy:Jv [1] [153] (List.replicate 256 0) 0=(0,0,(List.replicate 256 0).set 153 1):=by
 rw[Qx RH (by decide) (by decide) (of_decide_eq_true (by kernel_rfl))];kernel_rfl
theorem Yh:Jv [1] [153] ((List.replicate 256 0).set 153 1) 0=(5,0,(List.replicate 256 0).set 153 1):=UM (UT RH (by decide)) (by decide) (by decide) (of_decide_eq_true (by kernel_rfl))
section
variable (w8:World)(z:Nat)(ax10:Option Addr)(cp11:Nat)(ax22:Option Addr)(y21:AZ)(cp23 n24 n29:Nat)(lay9:FN)(n12:Nat)(w6:World)(W5:Hy)(b41 cp28:Nat)(ax37:Option Addr)(cp38:Nat)(ax27:Option Addr)(w:World)(mq36:Nat)
abbrev J5:=bk (w8.heap.size+3) #[.string (⟨#[97]⟩),i6 0,i6 0,i6 0,i6 1,i6 1,.slice (some ⟨z+5,0,none⟩) 1 1,.slice none 0 0] 52
abbrev O0:=bk (w8.heap.size+2) #[i6 16,.slice ax10 (([]++[1]).length) cp11,.slice ax22 (([]++[y21.State+4]).length) cp23,.map (some (w8.heap.size+1))] 68
abbrev H6:=bk (z+1) #[i6 16,i6 400,i6 8,i6 4,.slice (some ⟨z+3,0,none⟩) 1 1,.slice (some ⟨z+6,0,none⟩) 1 1,.slice none 0 0] 26
abbrev IG:=bk (z+9) #[i6 16,i6 400,i6 8,i6 4,.slice (some ⟨z+3,0,none⟩) 1 1,.slice (some ⟨z+6,0,none⟩) 1 1,.slice none 0 0] 26
abbrev Ic:=bk z #[i6 16,i6 400,i6 8,i6 4,.slice (some ⟨z+3,0,none⟩) 1 1,.slice (some ⟨z+6,0,none⟩) 1 1,.slice none 0 0] 26
abbrev H5:=bk (z+4) #[.string (⟨#[97]⟩),i6 0,i6 0,i6 0,i6 1,i6 1,.slice (some ⟨z+5,0,none⟩) 1 1,.slice none 0 0] 52
abbrev Ib:=bk (z+6) #[.string (⟨#[97]⟩),i6 0,i6 0,i6 0,i6 1,i6 1,.slice (some ⟨z+5,0,none⟩) 1 1,.slice none 0 0] 52
abbrev Xp:=bk (w8.heap.size+2) #[i6 16,.slice ax10 (([]++[1]).length) cp11,.slice none 0 0,.map (some (w8.heap.size+1))] 68
abbrev UC:=bk (w8.heap.size+2) #[i6 16,.slice none 0 0,.slice none 0 0,.map (some (w8.heap.size+1))] 68
abbrev Il:=bk (z+8) #[i6 0,i6 3,.slice (some ⟨z+7,0,none⟩) 1 1] 32
abbrev NH:=bk n24 #[i6 0,i6 3,.slice (some ⟨z+7,0,none⟩) 1 1] 32
abbrev TN:=bk n29 #[i6 0,i6 3,.slice (some ⟨z+7,0,none⟩) 1 1] 32
abbrev GG:=bk (z+5) #[i6 0,i6 1,i6 2,i6 7] 103
abbrev G9:=bk (z+2) #[i6 0,i6 300,i6 100] 101
abbrev G5:=bk (z+3) #[.slice (some ⟨z+2,0,none⟩) 1 1] 65
abbrev NZ:=bk (n24+1) #[i6 0,i6 3] 72
abbrev Ju:=bk (w8.heap.size+4) #[i6 1] 3
abbrev Iz:Ch:= .blk w8.heap.size (.cells (FN.arr lay9) 60 (0,0)) true
abbrev Ls:=bk n12 #[i6 (y21.State+4)] 3
abbrev H9:Ch:= .blk w6.heap.size (.cells (Hy.arr W5) 38 (0,0)) true
abbrev GN:=bk (z+7) #[.int .u32 77] 54
abbrev MO:=CP z 3 1 (fun x:Int=>[i6 x]) (.slice ax22 (([]++[y21.State+4]).length) cp23) ([]++[y21.State+4])
abbrev VH:=CP z 54 1 (fun x:Int=>[Value.int .u32 x]) (.slice (some ⟨b41,0,none⟩) 1 cp28) (([]:List Int)++[77])
abbrev Vg:=CP (n29+1) 54 1 (fun x:Int=>[Value.int .u32 x]) (.slice ax37 256 cp38) (List.replicate 256 0)
abbrev KF:=CP z 3 1 (fun x:Int=>[i6 x]) (.slice ax10 (([]++[1]).length) cp11) ([]++[1])
abbrev Vw:=CP z 54 1 (fun x:Int=>[Value.int .u32 x]) (.slice ax27 1 cp28) (([]:List Int)++[77])
abbrev PK:=CP z 3 1 (fun x:Int=>[i6 x]) (.slice none 0 0) ([])
abbrev F5:=(10,pt (w8.heap.size+2))
abbrev Jg:=(8,pt w8.heap.size)
abbrev Qc:CO:=(108,.slice (some ⟨z+6,0,none⟩) 1 1)
abbrev PU:CO:=(124,.slice (some ⟨z+7,0,none⟩) 1 1)
abbrev P9:CO:=(127,.slice (some ⟨z+6,0,none⟩) 1 1)
abbrev Jf:CO:=(43,.slice (some ⟨z+6,0,none⟩) 1 1)
abbrev Le:CO:=(78,.slice (some ⟨z+8,0,none⟩) 1 1)
abbrev QT:=(15,pt (n24+1))
abbrev Fz:CO:=(1,.slice (some ⟨z+8,0,none⟩) 1 1)
abbrev PX:CO:=(107,.pointer (some ⟨z+9,5,none⟩))
abbrev PG:CO:=(126,.pointer (some ⟨z+9,5,none⟩))
abbrev PW:=(130,pt (z+6))
abbrev PE:CO:=(131,.pointer (some ⟨z+6,4,none⟩))
abbrev F6:=(2,pt (z+9))
abbrev Qa:=(100,pt n24)
abbrev Qd:=(105,pt n24)
abbrev PO:CO:=(113,.pointer (some ⟨n24,1,none⟩))
abbrev PI:CO:=(118,.pointer (some ⟨n24,1,none⟩))
abbrev PM:CO:=(123,.pointer (some ⟨n24,2,none⟩))
abbrev PY:=(128,pt n24)
abbrev UZ:=[(Ak w),(Ic z),(H6 z),(G9 z),(G5 z),(H5 z),(GG z),(Ib z),(GN z),(Il z),(IG z),(H9 w6 W5),(mid (w6.heap.size+1) w8),(Iz w8 lay9),(Ch.blk (w8.heap.size+1) (.map #[{ key:= .agg #[i6 0,i6 3],val:= .slice (some ⟨b41,0,none⟩) 1 cp28,born:=0 }] 1) true),(O0 w8 ax10 cp11 ax22 y21 cp23),(KF z ax10 cp11),(MO z ax22 y21 cp23),(J5 w8 z),(Ju w8),(Ls y21 n12),(NH z n24),(NZ n24),(VH z b41 cp28),(TN z n29),(bk mq36 #[.slice ax37 256 cp38] 81),(Vg n29 ax37 cp38)]
abbrev XW:=[(Ak w),(Ic z),(H6 z),(G9 z),(G5 z),(H5 z),(GG z),(Ib z),(GN z),(Il z),(IG z),(H9 w6 W5),(mid (w6.heap.size+1) w8),(Iz w8 lay9),(Ch.blk (w8.heap.size+1) (.map #[{ key:= .agg #[i6 0,i6 3],val:= .slice ax27 1 cp28,born:=0 }] 1) true),(O0 w8 ax10 cp11 ax22 y21 cp23),(KF z ax10 cp11),(MO z ax22 y21 cp23),(J5 w8 z),(Ju w8),(Ls y21 n12),(NH z n24),(NZ n24),(Vw z cp28 ax27)]
abbrev Rk:=[(Ak w),(Ic z),(H6 z),(G9 z),(G5 z),(H5 z),(GG z),(Ib z),(GN z),(Il z),(IG z),(H9 w6 W5),(mid (w6.heap.size+1) w8),(Iz w8 lay9),(Ch.blk (w8.heap.size+1) (.map #[] 0) true),(O0 w8 ax10 cp11 ax22 y21 cp23),(KF z ax10 cp11),(MO z ax22 y21 cp23),(J5 w8 z),(Ju w8),(Ls y21 n12),(NH z n24),(NZ n24)]
abbrev XM:=[(Ak w),(Ic z),(H6 z),(G9 z),(G5 z),(H5 z),(GG z),(Ib z),(GN z),(Il z),(IG z),(H9 w6 W5),(mid (w6.heap.size+1) w8),(Iz w8 lay9),(Ch.blk (w8.heap.size+1) (.map #[] 0) true),(O0 w8 ax10 cp11 ax22 y21 cp23),(KF z ax10 cp11),(MO z ax22 y21 cp23),(J5 w8 z),(Ju w8),(Ls y21 n12)]
abbrev XB:=[(Ak w),(Ic z),(H6 z),(G9 z),(G5 z),(H5 z),(GG z),(Ib z),(GN z),(Il z),(IG z),(H9 w6 W5),(mid (w6.heap.size+1) w8),(Iz w8 lay9),(Ch.blk (w8.heap.size+1) (.map #[] 0) true),(Xp w8 ax10 cp11),(KF z ax10 cp11),(PK z),(J5 w8 z),(Ju w8)]
abbrev X8:=[(Ak w),(Ic z),(H6 z),(G9 z),(G5 z),(H5 z),(GG z),(Ib z),(GN z),(Il z)]
end
theorem OW(w:World)(hL:Gz w):Calls Tryd.prog 7 #[] w fun e w'=>e = .returned (.bool true)∧CJ (fun _=>False) w w':=by
 obtain⟨z,hz⟩:∃ z,z=w.heap.size:=⟨_,rfl⟩
 refine BP (args:=[]) 91 ⟨w,z,[(Ak w)]⟩ Tryd.func7 rfl (by kernel_rfl) (by kernel_rfl) (EQ hz) ?_
 refine DZ [] [] ?_
 refine A7 6 0 [] [[o0]] [] [] rfl Ag ?_
 refine l_call [] [] 15 #[] (some 14) Ag ?_
 intro w1 hw1
 refine BP (args:=[]) 16 ⟨w,z,[(Ak w)]⟩ Tryd.func15 rfl (by kernel_rfl) (by kernel_rfl) hw1 ?_
 refine q_c 29 0 [] [[o0],[o0,o0,(an 7 2)],[o0,o0,o0,o0,(a1 2)],[o0,o0,(an 8 5)],[o0,o0,o0,(a1 5)],[(an 8 5),o0,o0,(a1 2)],[(an 7 2),(an 7 1)]] [Qb (z+1),Qb (z+1),Qb (z+1),Qb (z+1),Qb (z+1),Qb (z+1),Qb (z+1),Qb (z+1),Qb (z+4),Qb (z+4),Qb (z+4),Qb (z+4),Qb (z+4),Qb (z+4),Qb (z+4),Qb (z+4),Qb (z+4),Qb (z+4),Qb (z+4),Qb (z+4),Qb (z+4),Qb (z+4),Qb (z+4),Qb (z+4),Qb (z+4),Qb (z+1),Qb (z+1),Qb (z+1),Qb (z+1),Qb (z+1),Qb (z+1),Qb (z+1),Qb (z+1),Qb z,Qb z,Qb z,Qb z,Qb z,Qb z,Qb z] [(0,pt z)] ⟨w,z+7,[(Ak w),(Ic z),(H6 z),(G9 z),(G5 z),(H5 z),(GG z),(Ib z)]⟩ rfl ⟨rfl,rfl,rfl,rfl,rfl,rfl,rfl,rfl,rfl,rfl,rfl,rfl,rfl,rfl,rfl,rfl,rfl,rfl,rfl,rfl,rfl,rfl,rfl,rfl,rfl,rfl,rfl,rfl,rfl,rfl,rfl,rfl,rfl,rfl,rfl,rfl,rfl,rfl,rfl,rfl,Ag⟩ ?_
 refine AX [.at 1,.at 1,.at 1,.at 1,.at 1,.at 1,.at 1] [Qb z,Qb z,Qb z,Qb z,Qb z,Qb z,Qb z] (.agg #[i6 16,i6 400,i6 8,i6 4,.slice (some ⟨z+3,0,none⟩) 1 1,.slice (some ⟨z+6,0,none⟩) 1 1,.slice none 0 0]) ⟨rfl,rfl,rfl,rfl,rfl,rfl,rfl,Ag⟩ ?_
 intro w2 hw2
 refine⟨_,_,rfl,hw2, ?_⟩
 refine FD 0 3 [] [[o0,o0,o0]] [] [(14,.agg #[i6 16,i6 400,i6 8,i6 4,.slice (some ⟨z+3,0,none⟩) 1 1,.slice (some ⟨z+6,0,none⟩) 1 1,.slice none 0 0]),(17,.slice (some ⟨z+8,0,none⟩) 1 1)] ⟨w,z+9,(X8 z w)⟩ rfl Ag ?_
 refine l_call [] [] 8 #[.agg #[i6 16,i6 400,i6 8,i6 4,.slice (some ⟨z+3,0,none⟩) 1 1,.slice (some ⟨z+6,0,none⟩) 1 1,.slice none 0 0],.slice (some ⟨z+8,0,none⟩) 1 1] (some 18) Ag ?_
 intro w3 hw3
 refine BP (args:=[.agg #[i6 16,i6 400,i6 8,i6 4,.slice (some ⟨z+3,0,none⟩) 1 1,.slice (some ⟨z+6,0,none⟩) 1 1,.slice none 0 0],.slice (some ⟨z+8,0,none⟩) 1 1]) 165 ⟨w,z+9,(X8 z w)⟩ Tryd.func8 rfl (by kernel_rfl) (by kernel_rfl) hw3 ?_
 refine q_c 15 1 [0] [[o0,o0,o0],[o0,o0,o0],[(an 7 10)]] [Qb (z+9),Qb (z+9),Qb (z+9),Qb (z+9),Qb (z+9),Qb (z+9),Qb (z+9)] [(Fz z),(F6 z),(24,.agg #[i6 16,i6 400,i6 8,i6 4,.slice (some ⟨z+3,0,none⟩) 1 1,.slice (some ⟨z+6,0,none⟩) 1 1,.slice none 0 0])] ⟨w,z+10,[(Ak w),(Ic z),(H6 z),(G9 z),(G5 z),(H5 z),(GG z),(Ib z),(GN z),(Il z),(IG z)]⟩ rfl ⟨rfl,rfl,rfl,rfl,rfl,rfl,rfl,Ag⟩ ?_
 refine l_call [] [] 17 #[.agg #[i6 16,i6 400,i6 8,i6 4,.slice (some ⟨z+3,0,none⟩) 1 1,.slice (some ⟨z+6,0,none⟩) 1 1,.slice none 0 0]] (some 25) Ag ?_
 intro w4 hw4
 refine(ZA w4 (hL.ext (hw4.ext rfl)) (⟨16,400,8,4,(⟨some ⟨z+3,0,none⟩,1,([(⟨some ⟨z+2,0,none⟩,1,([(⟨0,300,100⟩:BK)]:List BK)⟩:Sl BK)]:List (Sl BK))⟩:Sl (Sl BK)),(⟨some ⟨z+6,0,none⟩,1,([(⟨⟨#[97]⟩,0,0,0,1,1,(⟨some ⟨z+5,0,none⟩,1,([(⟨0,1,2,7⟩:BJ)]:List BJ)⟩:Sl BJ),(⟨none,0,[]⟩:Sl DF)⟩:Ar)]:List Ar)⟩:Sl Ar),(⟨none,0,[]⟩:Sl BH)⟩:Aj) (⟨(Fb (n:=16)),(Fb (n:=400)),(Fb (n:=8)),(Fb (n:=4)),(MH hw4 (cells:=(fun x:Sl BK=>[Sl.val x])) (sz:=1) (ok:=(fun F W x=>Ig BK.cells 3 BK.ok F W x)) (i:=4) (fun _=>rfl) ([(⟨some ⟨z+2,0,none⟩,1,([(⟨0,300,100⟩:BK)]:List BK)⟩:Sl BK)]:List (Sl BK)) (MJ (p:=(fun F W x=>Ig BK.cells 3 BK.ok F W x) Any w4) (MH hw4 (cells:=BK.cells) (sz:=3) (ok:=BK.ok) (i:=3) (fun _=>rfl) ([(⟨0,300,100⟩:BK)]:List BK) (MJ (p:=BK.ok Any w4) (⟨(Fb (n:=0)),(Fb (n:=300)),(Fb (n:=100))⟩:BK.ok Any w4 ⟨0,300,100⟩) Oy)) Oy)),(MH hw4 (cells:=Ar.cells) (sz:=8) (ok:=Ar.ok) (i:=7) (fun _=>rfl) ([(⟨⟨#[97]⟩,0,0,0,1,1,(⟨some ⟨z+5,0,none⟩,1,([(⟨0,1,2,7⟩:BJ)]:List BJ)⟩:Sl BJ),(⟨none,0,[]⟩:Sl DF)⟩:Ar)]:List Ar) (MJ (p:=Ar.ok Any w4) (⟨(show(⟨#[97]⟩:ByteArray).size≤140737488351232 by decide),(Fb (n:=0)),(Fb (n:=0)),(Fb (n:=0)),(Fb (n:=1)),(Fb (n:=1)),(MH hw4 (cells:=BJ.cells) (sz:=4) (ok:=BJ.ok) (i:=6) (fun _=>rfl) ([(⟨0,1,2,7⟩:BJ)]:List BJ) (MJ (p:=BJ.ok Any w4) (⟨(Fb (n:=0)),(Fb (n:=1)),(Fb (n:=2)),(Fb (n:=7))⟩:BJ.ok Any w4 ⟨0,1,2,7⟩) Oy)),Rq⟩:Ar.ok Any w4 ⟨⟨#[97]⟩,0,0,0,1,1,(⟨some ⟨z+5,0,none⟩,1,([(⟨0,1,2,7⟩:BJ)]:List BJ)⟩:Sl BJ),(⟨none,0,[]⟩:Sl DF)⟩) Oy)),Rq⟩:Aj.ok Any w4 ⟨16,400,8,4,(⟨some ⟨z+3,0,none⟩,1,([(⟨some ⟨z+2,0,none⟩,1,([(⟨0,300,100⟩:BK)]:List BK)⟩:Sl BK)]:List (Sl BK))⟩:Sl (Sl BK)),(⟨some ⟨z+6,0,none⟩,1,([(⟨⟨#[97]⟩,0,0,0,1,1,(⟨some ⟨z+5,0,none⟩,1,([(⟨0,1,2,7⟩:BJ)]:List BJ)⟩:Sl BJ),(⟨none,0,[]⟩:Sl DF)⟩:Ar)]:List Ar)⟩:Sl Ar),(⟨none,0,[]⟩:Sl BH)⟩) (Nat.le_of_ble_eq_true (by kernel_rfl)) 0 (by kernel_rfl)).mono ?_
 rintro e w6 ⟨W5,rfl,hkw6⟩
 have hnw6:z+10≤w6.heap.size:=EO hw4 hkw6
 refine⟨_,_,rfl,hw4.keeps hkw6, ?_⟩
 refine FD 11 1 [0] [[o0,o0,o0,o0,o0,(an 2 11)],[o0,o0],[(an 7 10)]] [Qb w6.heap.size,Qb w6.heap.size,Qb (z+9),Qb (z+9),Qb (z+9),Qb (z+9),Qb (z+9),Qb (z+9),Qb (z+9)] [(Fz z),(F6 z),(31,.agg #[i6 16,i6 400,i6 8,i6 4,.slice (some ⟨z+3,0,none⟩) 1 1,.slice (some ⟨z+6,0,none⟩) 1 1,.slice none 0 0])] ⟨w,w6.heap.size+1,[(Ak w),(Ic z),(H6 z),(G9 z),(G5 z),(H5 z),(GG z),(Ib z),(GN z),(Il z),(IG z),(H9 w6 W5)]⟩ rfl ⟨rfl,rfl,rfl,rfl,rfl,rfl,rfl,rfl,rfl,Ag⟩ ?_
 refine l_call [] [] 18 #[.agg #[i6 16,i6 400,i6 8,i6 4,.slice (some ⟨z+3,0,none⟩) 1 1,.slice (some ⟨z+6,0,none⟩) 1 1,.slice none 0 0]] (some 32) Ag ?_
 intro w7 hw7
 refine(Xr w7 (⟨16,400,8,4,(⟨some ⟨z+3,0,none⟩,1,([(⟨some ⟨z+2,0,none⟩,1,([(⟨0,300,100⟩:BK)]:List BK)⟩:Sl BK)]:List (Sl BK))⟩:Sl (Sl BK)),(⟨some ⟨z+6,0,none⟩,1,([(⟨⟨#[97]⟩,0,0,0,1,1,(⟨some ⟨z+5,0,none⟩,1,([(⟨0,1,2,7⟩:BJ)]:List BJ)⟩:Sl BJ),(⟨none,0,[]⟩:Sl DF)⟩:Ar)]:List Ar)⟩:Sl Ar),(⟨none,0,[]⟩:Sl BH)⟩:Aj) (⟨(Fb (n:=16)),(Fb (n:=400)),(Fb (n:=8)),(Fb (n:=4)),(MH hw7 (cells:=(fun x:Sl BK=>[Sl.val x])) (sz:=1) (ok:=(fun F W x=>Ig BK.cells 3 BK.ok F W x)) (i:=4) (fun _=>rfl) ([(⟨some ⟨z+2,0,none⟩,1,([(⟨0,300,100⟩:BK)]:List BK)⟩:Sl BK)]:List (Sl BK)) (MJ (p:=(fun F W x=>Ig BK.cells 3 BK.ok F W x) Any w7) (MH hw7 (cells:=BK.cells) (sz:=3) (ok:=BK.ok) (i:=3) (fun _=>rfl) ([(⟨0,300,100⟩:BK)]:List BK) (MJ (p:=BK.ok Any w7) (⟨(Fb (n:=0)),(Fb (n:=300)),(Fb (n:=100))⟩:BK.ok Any w7 ⟨0,300,100⟩) Oy)) Oy)),(MH hw7 (cells:=Ar.cells) (sz:=8) (ok:=Ar.ok) (i:=7) (fun _=>rfl) ([(⟨⟨#[97]⟩,0,0,0,1,1,(⟨some ⟨z+5,0,none⟩,1,([(⟨0,1,2,7⟩:BJ)]:List BJ)⟩:Sl BJ),(⟨none,0,[]⟩:Sl DF)⟩:Ar)]:List Ar) (MJ (p:=Ar.ok Any w7) (⟨(show(⟨#[97]⟩:ByteArray).size≤140737488351232 by decide),(Fb (n:=0)),(Fb (n:=0)),(Fb (n:=0)),(Fb (n:=1)),(Fb (n:=1)),(MH hw7 (cells:=BJ.cells) (sz:=4) (ok:=BJ.ok) (i:=6) (fun _=>rfl) ([(⟨0,1,2,7⟩:BJ)]:List BJ) (MJ (p:=BJ.ok Any w7) (⟨(Fb (n:=0)),(Fb (n:=1)),(Fb (n:=2)),(Fb (n:=7))⟩:BJ.ok Any w7 ⟨0,1,2,7⟩) Oy)),Rq⟩:Ar.ok Any w7 ⟨⟨#[97]⟩,0,0,0,1,1,(⟨some ⟨z+5,0,none⟩,1,([(⟨0,1,2,7⟩:BJ)]:List BJ)⟩:Sl BJ),(⟨none,0,[]⟩:Sl DF)⟩) Oy)),Rq⟩:Aj.ok Any w7 ⟨16,400,8,4,(⟨some ⟨z+3,0,none⟩,1,([(⟨some ⟨z+2,0,none⟩,1,([(⟨0,300,100⟩:BK)]:List BK)⟩:Sl BK)]:List (Sl BK))⟩:Sl (Sl BK)),(⟨some ⟨z+6,0,none⟩,1,([(⟨⟨#[97]⟩,0,0,0,1,1,(⟨some ⟨z+5,0,none⟩,1,([(⟨0,1,2,7⟩:BJ)]:List BJ)⟩:Sl BJ),(⟨none,0,[]⟩:Sl DF)⟩:Ar)]:List Ar)⟩:Sl Ar),(⟨none,0,[]⟩:Sl BH)⟩) (by kernel_rfl)).mono ?_
 rintro e w8 ⟨lay9,rfl,hIlay9,hOlay9, -,hkw8⟩
 have hnw8:w6.heap.size+1≤w8.heap.size:=EO hw7 hkw8
 rw[hw7.size]at hOlay9;have hpllay9:lay9.Aa.xs.length=(⟨16,400,8,4,(⟨some ⟨z+3,0,none⟩,1,([(⟨some ⟨z+2,0,none⟩,1,([(⟨0,300,100⟩:BK)]:List BK)⟩:Sl BK)]:List (Sl BK))⟩:Sl (Sl BK)),(⟨some ⟨z+6,0,none⟩,1,([(⟨⟨#[97]⟩,0,0,0,1,1,(⟨some ⟨z+5,0,none⟩,1,([(⟨0,1,2,7⟩:BJ)]:List BJ)⟩:Sl BJ),(⟨none,0,[]⟩:Sl DF)⟩:Ar)]:List Ar)⟩:Sl Ar),(⟨none,0,[]⟩:Sl BH)⟩:Aj).Aa.xs.length:=hIlay9.pl
 refine⟨_,_,rfl,hw7.RV hkw8, ?_⟩
 replace hpllay9:lay9.Aa.xs.length=1:=hpllay9
 refine FD 20 0 [0] [[o0,o0,o0,o0,(an 4 13),o0],[o0,o0],[o0,(a1 10),o0,o0,o0,o0],[o0,(a1 10),o0,o0]] [Qb w8.heap.size,Qb w8.heap.size,Qb w8.heap.size,Qb w8.heap.size,Qb (z+9),Qb (z+9)] [(Fz z),(F6 z),(Jg w8),(F5 w8),(Jf z),(44,i6 1),(45,i6 0)] ⟨w,w8.heap.size+3,[(Ak w),(Ic z),(H6 z),(G9 z),(G5 z),(H5 z),(GG z),(Ib z),(GN z),(Il z),(IG z),(H9 w6 W5),(mid (w6.heap.size+1) w8),(Iz w8 lay9),(Ch.blk (w8.heap.size+1) (.map #[] 0) true),(UC w8)]⟩ rfl ⟨rfl,rfl,rfl,rfl,rfl,rfl,Ag⟩ ?_
 refine Nb z 3 1 (fun x:Int=>[i6 x]) ?_
 refine Nb z 3 1 (fun x:Int=>[i6 x]) ?_
 refine Us 40 ?_
 refine q_c 15 0 [1] [[o0],[o0,(oi 0),(an 8 7),o0,o0,(an 8 18)]] [(0:Int)=((0:Nat):Int),0<1,Dt,Qb (z+6),Qb (z+6),Qb (z+6),Qb (z+6),Qb (z+6),Qb (z+6),Qb (z+6),Qb (z+6),Qb (w8.heap.size+3),Qb (w8.heap.size+3),Qb (w8.heap.size+3),Qb (w8.heap.size+3),Qb (w8.heap.size+3),Qb (w8.heap.size+3),Qb (w8.heap.size+3),Qb (w8.heap.size+3)] [(Fz z),(F6 z),(Jg w8),(F5 w8),(Jf z),(44,i6 1),(45,i6 0),(12,pt (w8.heap.size+3)),(11,i6 0)] ⟨w,w8.heap.size+4,[(Ak w),(Ic z),(H6 z),(G9 z),(G5 z),(H5 z),(GG z),(Ib z),(GN z),(Il z),(IG z),(H9 w6 W5),(mid (w6.heap.size+1) w8),(Iz w8 lay9),(Ch.blk (w8.heap.size+1) (.map #[] 0) true),(UC w8),(PK z),(PK z),(J5 w8 z)]⟩ rfl ⟨rfl,(by omega),rfl,rfl,rfl,rfl,rfl,rfl,rfl,rfl,rfl,rfl,rfl,rfl,rfl,rfl,rfl,rfl,rfl,Ag⟩ ?_
 refine DN 11 [0,1,2,3,4,5,6,7,8,9,10,11,12,13,14,15,18] [(Ak w),(Ic z),(H6 z),(G9 z),(G5 z),(H5 z),(GG z),(Ib z),(GN z),(Il z),(IG z),(H9 w6 W5),(mid (w6.heap.size+1) w8),(Iz w8 lay9),(Ch.blk (w8.heap.size+1) (.map #[] 0) true),(UC w8),(J5 w8 z)] rfl rfl ?_
 refine Dc [(0,o0),(1,o0),(2,o0),(3,o0),(4,(a1 15)),(5,o0),(6,(a1 16))] [1,2,8,10,43,44,45,11,50,54,56] [Qb (w8.heap.size+2),Qb (w8.heap.size+3)] (Dj 7 5) [(Fz z),(F6 z),(Jg w8),(F5 w8),(Jf z),(44,i6 1),(45,i6 0),(11,i6 0),(50,pt (w8.heap.size+2)),(54,.slice none 0 0),(56,i6 1)] ⟨rfl,rfl,Ag⟩ ?_
 refine Bo 7 ?_
 refine Bq o0 [1,2,8,10,43,44,45,11,50,54,57] [] [(Fz z),(F6 z),(Jg w8),(F5 w8),(Jf z),(44,i6 1),(45,i6 0),(11,i6 0),(50,pt (w8.heap.size+2)),(54,.slice none 0 0),(57,.slice (some ⟨w8.heap.size+4,0,none⟩) 1 1)] ⟨w,w8.heap.size+5,[(Ak w),(Ic z),(H6 z),(G9 z),(G5 z),(H5 z),(GG z),(Ib z),(GN z),(Il z),(IG z),(H9 w6 W5),(mid (w6.heap.size+1) w8),(Iz w8 lay9),(Ch.blk (w8.heap.size+1) (.map #[] 0) true),(UC w8),(PK z),(PK z),(J5 w8 z),(Ju w8)]⟩ [0,1,2,3,4,5,6,7,8,9,10,11,12,13,14,15,18] Ag (.inr rfl) ?_
 refine Bo 8 ?_
 refine OD z 16 19 ([]) [1] (fun x:Int=>[i6 x]) 3 1 8 (.slice none 0 0) (w8.heap.size+4) 1 1 #[i6 1] 3 (0,0) true (some 58) [0,1,2,3,4,5,6,7,8,9,10,11,12,13,14,15,18] (by simp only[List.length_cons,List.length_nil];omega) (show z≤w8.heap.size+5 by omega) (.inr ⟨rfl,rfl⟩) (fun ax10 cp11 n12 (hn13:w8.heap.size+5≤n12) => ?_)
 refine CZ [1,2,8,10,43,44,45,11,50,58] [(Fz z),(F6 z),(Jg w8),(F5 w8),(Jf z),(44,i6 1),(45,i6 0),(11,i6 0),(50,pt (w8.heap.size+2)),(58,.slice ax10 (([]++[1]).length) cp11)] ?_
 refine Dc [(9,o0),(10,o0)] [1,2,8,10,43,44,45,11,58,60] [] (Dj 11 1) [(Fz z),(F6 z),(Jg w8),(F5 w8),(Jf z),(44,i6 1),(45,i6 0),(11,i6 0),(58,.slice ax10 (([]++[1]).length) cp11),(60,.pointer (some ⟨w8.heap.size+2,1,none⟩))] Ag ?_
 refine Bo 11 ?_
 refine Bq (a1 15) [1,2,8,10,43,44,45,11] [Qb (w8.heap.size+2)] [(Fz z),(F6 z),(Jg w8),(F5 w8),(Jf z),(44,i6 1),(45,i6 0),(11,i6 0)] ⟨w,n12,(XB w8 z ax10 cp11 lay9 w6 W5 w)⟩ [] ⟨rfl,Ag⟩ (.inl rfl) ?_
 refine D8 12 [0,1,2,3,4,5,6,7,8,9,10,11,12,13,14,15,16,17,18,19] (XB w8 z ax10 cp11 lay9 w6 W5 w) rfl rfl ?_
 refine CV ?_
 refine BR [1,2,8,10,43,44,45,11] [(Fz z),(F6 z),(Jg w8),(F5 w8),(Jf z),(44,i6 1),(45,i6 0),(11,i6 0)] ?_
 refine GZ ?_
 obtain⟨b14,o15,ha16,hF18,hc17⟩:=(hOlay9.Aa).1.all (show 0<lay9.Aa.xs.length by omega)
 replace ha16:lay9.Aa.a=some ⟨b14,o15,none⟩:=ha16
 have hc19:=hc17 0 (show 0<lay9.Aa.xs.length by omega)
 have he20:=(hOlay9.Aa).2 0 (show 0<lay9.Aa.xs.length by omega)
 obtain⟨y21,hy21⟩:∃ y_,y_=gd lay9.Aa.xs 0:=⟨_,rfl⟩
 rw[←hy21]at he20 hc19
 have hst:y21.State=149:=by rw[hy21];exact Xv hIlay9 (show 0<1 by decide)
 refine DN 16 [0,1,2,3,4,5,6,7,8,9,10,11,12,13,14,15,18,19] [(Ak w),(Ic z),(H6 z),(G9 z),(G5 z),(H5 z),(GG z),(Ib z),(GN z),(Il z),(IG z),(H9 w6 W5),(mid (w6.heap.size+1) w8),(Iz w8 lay9),(Ch.blk (w8.heap.size+1) (.map #[] 0) true),(Xp w8 ax10 cp11),(J5 w8 z),(Ju w8)] rfl rfl ?_
 refine Dc [(0,o0),(1,o0),(2,o0),(3,o0),(4,(a1 15)),(5,o0),(6,(Jk 13 b14 o15 lay9.Aa)),(7,o0),(8,(oi 0)),(9,o0),(10,(oa [.via 12 (i6 y21.State)])),(11,(ov (i6 (y21.State+4))))] [1,2,8,10,43,44,45,61,65,72] [Qb (w8.heap.size+2),Qb w8.heap.size,IQ b14 o15 lay9.Aa,(0:Int)=((0:Nat):Int),0<lay9.Aa.xs.length,Dt,∀ w',Ch.holds (mid (w6.heap.size+1) w8) w'→w'.cell? ⟨b14,o15+2,none⟩=some (i6 y21.State),Wr ((y21.State:Int)+4) (y21.State+4)] (Dj 12 5) [(Fz z),(F6 z),(Jg w8),(F5 w8),(Jf z),(44,i6 1),(45,i6 0),(61,pt (w8.heap.size+2)),(65,.slice none 0 0),(72,i6 (y21.State+4))] ⟨rfl,rfl,IP ha16,rfl,(by omega),rfl,OE hF18 (hc19 2 _ rfl),CU,Ag⟩ ?_
 refine Bo 12 ?_
 refine Bq o0 [1,2,8,10,43,44,45,61,65,73] [] [(Fz z),(F6 z),(Jg w8),(F5 w8),(Jf z),(44,i6 1),(45,i6 0),(61,pt (w8.heap.size+2)),(65,.slice none 0 0),(73,.slice (some ⟨n12,0,none⟩) 1 1)] ⟨w,n12+1,[(Ak w),(Ic z),(H6 z),(G9 z),(G5 z),(H5 z),(GG z),(Ib z),(GN z),(Il z),(IG z),(H9 w6 W5),(mid (w6.heap.size+1) w8),(Iz w8 lay9),(Ch.blk (w8.heap.size+1) (.map #[] 0) true),(Xp w8 ax10 cp11),(KF z ax10 cp11),(PK z),(J5 w8 z),(Ju w8),(Ls y21 n12)]⟩ [0,1,2,3,4,5,6,7,8,9,10,11,12,13,14,15,18,19] Ag (.inr rfl) ?_
 refine Bo 13 ?_
 refine OD z 17 20 ([]) [y21.State+4] (fun x:Int=>[i6 x]) 3 1 8 (.slice none 0 0) n12 1 1 #[i6 (y21.State+4)] 3 (0,0) true (some 74) [0,1,2,3,4,5,6,7,8,9,10,11,12,13,14,15,18,19] (by simp only[List.length_cons,List.length_nil];omega) (show z≤n12+1 by omega) (.inr ⟨rfl,rfl⟩) (fun ax22 cp23 n24 (hn25:n12+1≤n24) => ?_)
 refine CZ [1,2,8,10,43,44,45,61,74] [(Fz z),(F6 z),(Jg w8),(F5 w8),(Jf z),(44,i6 1),(45,i6 0),(61,pt (w8.heap.size+2)),(74,.slice ax22 (([]++[y21.State+4]).length) cp23)] ?_
 refine Dc [(14,o0),(15,o0)] [1,2,8,10,43,44,45,74,76] [] (Dj 16 1) [(Fz z),(F6 z),(Jg w8),(F5 w8),(Jf z),(44,i6 1),(45,i6 0),(74,.slice ax22 (([]++[y21.State+4]).length) cp23),(76,.pointer (some ⟨w8.heap.size+2,2,none⟩))] Ag ?_
 refine Bo 16 ?_
 refine Bq (a1 15) [1,2,8,10,43,44,45] [Qb (w8.heap.size+2)] [(Fz z),(F6 z),(Jg w8),(F5 w8),(Jf z),(44,i6 1),(45,i6 0)] ⟨w,n24,(XM w8 z ax10 cp11 ax22 y21 cp23 lay9 n12 w6 W5 w)⟩ [] ⟨rfl,Ag⟩ (.inl rfl) ?_
 refine D8 17 [0,1,2,3,4,5,6,7,8,9,10,11,12,13,14,15,16,17,18,19,20] (XM w8 z ax10 cp11 ax22 y21 cp23 lay9 n12 w6 W5 w) rfl rfl ?_
 refine CV ?_
 refine Ns 4 0 [] [[o0,o0]] [] [(Fz z),(F6 z),(Jg w8),(F5 w8),(Jf z),(44,i6 1),(45,i6 1)] rfl Ag ?_
 refine Un ?_
 refine A7 17 0 [0] [[o0],[o0,o0,o0]] [] [(Fz z),(F6 z),(F5 w8),(Le z),(79,i6 1),(80,i6 0)] rfl Ag ?_
 refine Us 40 ?_
 refine q_c 19 0 [1] [[o0],[(oi 0),(an 3 9),o0,(an 3 21)],[o0,(a1 21),o0,(a1 21),o0,o0,(an 2 22)]] [(0:Int)=((0:Nat):Int),0<1,Dt,Qb (z+8),Qb (z+8),Qb (z+8),Qb n24,Qb n24,Qb n24,Qb n24,Qb n24,Qb (n24+1),Qb (n24+1)] [(Fz z),(F6 z),(F5 w8),(Le z),(79,i6 1),(80,i6 0),(14,pt n24),(QT n24)] ⟨w,n24+2,(Rk w8 z ax10 cp11 ax22 y21 cp23 n24 lay9 n12 w6 W5 w)⟩ rfl ⟨rfl,(by omega),rfl,rfl,rfl,rfl,rfl,rfl,rfl,rfl,rfl,rfl,rfl,Ag⟩ ?_
 refine DN 11 [0,1,2,3,4,5,6,7,8,9,10,11,12,13,14,15,16,17,18,19,20,21,22] (Rk w8 z ax10 cp11 ax22 y21 cp23 n24 lay9 n12 w6 W5 w) rfl rfl ?_
 refine Dc [(0,o0),(1,o0),(2,o0),(3,(a1 15)),(4,(an 2 22)),(5,(a1 14)),(6,o0),(7,o0),(8,o0),(9,o0),(10,o0)] [1,2,10,78,79,80,14,15,17] [Qb (w8.heap.size+2),Qb (n24+1),Qb (n24+1),Qb (w8.heap.size+1)] (Dj 11 0) [(Fz z),(F6 z),(F5 w8),(Le z),(79,i6 1),(80,i6 0),(14,pt n24),(QT n24),(17,.bool false)] ⟨rfl,rfl,rfl,rfl,Ag⟩ ?_
 refine CV ?_
 refine BR [1,2,10,78,79,80,14,15,17] [(Fz z),(F6 z),(F5 w8),(Le z),(79,i6 1),(80,i6 0),(14,pt n24),(QT n24),(17,.bool false)] ?_
 refine GZ <| DC <| DC <| DN 37 [0,1,2,3,4,5,6,7,8,9,10,11,12,13,14,15,16,17,18,19,20,21,22] (Rk w8 z ax10 cp11 ax22 y21 cp23 n24 lay9 n12 w6 W5 w) rfl rfl ?_
 refine Dc [(0,o0),(1,o0),(2,o0),(3,(a1 21)),(4,o0),(5,o0),(6,o0),(7,o0),(8,(a1 21)),(9,o0),(10,(a1 10)),(11,o0),(12,o0),(13,o0),(14,o0),(15,o0),(16,(a1 21)),(17,o0),(18,o0),(19,o0),(20,o0),(21,(a1 21)),(22,o0),(23,o0),(24,o0),(25,o0),(26,(a1 21)),(27,o0),(28,o0),(29,(a1 10)),(30,o0),(31,(a1 21)),(32,(oi 0)),(33,o0),(34,(a1 7)),(35,o0),(36,o0)] [1,2,10,78,79,80,14,15,100,101,102,105,106,107,108,109,110,113,114,115,118,119,120,123,124,125,126,127,128,129,130,131,132,133,134] [Qb n24,Qb n24,Qb (z+9),Qb n24,Qb n24,Qb n24,Qb (z+9),Qb n24,(0:Int)=((0:Nat):Int),0<1,Dt,Qb (z+6)] (Dj 37 0) [(Fz z),(F6 z),(F5 w8),(Le z),(79,i6 1),(80,i6 0),(14,pt n24),(QT n24),(Qa n24),(101,i6 0),(102,.bool false),(Qd n24),(106,i6 0),(PX z),(Qc z),(109,i6 1),(110,.bool false),(PO n24),(114,i6 3),(115,.bool false),(PI n24),(119,i6 3),(120,.bool false),(PM n24),(PU z),(125,i6 1),(PG z),(P9 z),(PY n24),(129,i6 0),(PW z),(PE z),(132,i6 1),(133,.bool false),(134,.bool false)] ⟨rfl,rfl,rfl,rfl,rfl,rfl,rfl,rfl,rfl,(by omega),rfl,rfl,Ag⟩ ?_
 refine CV ?_
 refine BR [1,2,10,78,79,80,14,15,100,101,102,105,106,107,108,109,110,113,114,115,118,119,120,123,124,125,126,127,128,129,130,131,132,133,134] [(Fz z),(F6 z),(F5 w8),(Le z),(79,i6 1),(80,i6 0),(14,pt n24),(QT n24),(Qa n24),(101,i6 0),(102,.bool false),(Qd n24),(106,i6 0),(PX z),(Qc z),(109,i6 1),(110,.bool false),(PO n24),(114,i6 3),(115,.bool false),(PI n24),(119,i6 3),(120,.bool false),(PM n24),(PU z),(125,i6 1),(PG z),(P9 z),(PY n24),(129,i6 0),(PW z),(PE z),(132,i6 1),(133,.bool false),(134,.bool false)] ?_
 refine GZ <| VQ <| Y7 <| GZ <| DN 8 [0,1,2,3,4,5,6,7,8,9,10,11,12,13,14,15,16,17,18,19,20,21,22] (Rk w8 z ax10 cp11 ax22 y21 cp23 n24 lay9 n12 w6 W5 w) rfl rfl ?_
 refine Dc [(0,o0),(1,o0),(2,o0),(3,(a1 15)),(4,(an 2 22)),(5,o0),(6,(a1 21))] [1,2,10,78,79,80,100,101,102,105,106,107,108,109,110,113,114,115,118,119,120,123,124,125,126,127,128,129,130,131,132,133,138,139,141] [Qb (w8.heap.size+2),Qb (n24+1),Qb (n24+1),Qb n24] (Dj 7 2) [(Fz z),(F6 z),(F5 w8),(Le z),(79,i6 1),(80,i6 0),(Qa n24),(101,i6 0),(102,.bool false),(Qd n24),(106,i6 0),(PX z),(Qc z),(109,i6 1),(110,.bool false),(PO n24),(114,i6 3),(115,.bool false),(PI n24),(119,i6 3),(120,.bool false),(PM n24),(PU z),(125,i6 1),(PG z),(P9 z),(PY n24),(129,i6 0),(PW z),(PE z),(132,i6 1),(133,.bool false),(138,.map (some (w8.heap.size+1))),(139,.agg #[i6 0,i6 3]),(141,.slice (some ⟨z+7,0,none⟩) 1 1)] ⟨rfl,rfl,rfl,rfl,Ag⟩ ?_
 refine Bo 7 ?_
 refine G7 [] [] 19 #[.slice (some ⟨z+7,0,none⟩) 1 1] (some 142) (by as_aux_lemma=>kernel_rfl) rfl rfl Ag ?_
 intro w26 hw26
 refine BP (args:=[.slice (some ⟨z+7,0,none⟩) 1 1]) 8 ⟨w,n24+2,(Rk w8 z ax10 cp11 ax22 y21 cp23 n24 lay9 n12 w6 W5 w)⟩ Tryd.func19 rfl (by kernel_rfl) (by kernel_rfl) hw26 ?_
 refine q_c 14 2 [0] [[o0],[o0,o0],[o0,o0]] [] [(5,.slice (some ⟨n24+2,0,none⟩) 0 0),(6,.slice (some ⟨z+7,0,none⟩) 1 1)] ⟨w,n24+3,[(Ak w),(Ic z),(H6 z),(G9 z),(G5 z),(H5 z),(GG z),(Ib z),(GN z),(Il z),(IG z),(H9 w6 W5),(mid (w6.heap.size+1) w8),(Iz w8 lay9),(Ch.blk (w8.heap.size+1) (.map #[] 0) true),(O0 w8 ax10 cp11 ax22 y21 cp23),(KF z ax10 cp11),(MO z ax22 y21 cp23),(J5 w8 z),(Ju w8),(Ls y21 n12),(NH z n24),(NZ n24),(bk (n24+2) #[] 54)]⟩ rfl Ag ?_
 refine ZM 23 (n24+2) z 54 1 (fun x:Int=>[Value.int .u32 x]) ([]:List Int) #[] (by omega) (?_:Lg _ _ _ _ ⟨w,n24+3,[(Ak w),(Ic z),(H6 z),(G9 z),(G5 z),(H5 z),(GG z),(Ib z),(GN z),(Il z),(IG z),(H9 w6 W5),(mid (w6.heap.size+1) w8),(Iz w8 lay9),(Ch.blk (w8.heap.size+1) (.map #[] 0) true),(O0 w8 ax10 cp11 ax22 y21 cp23),(KF z ax10 cp11),(MO z ax22 y21 cp23),(J5 w8 z),(Ju w8),(Ls y21 n12),(NH z n24),(NZ n24),(CP z 54 1 (fun x:Int=>[Value.int .u32 x]) (.slice (some ⟨n24+2,0,none⟩) 0 0) ([]:List Int))]⟩ _ _ _ _)
 refine U4 z 23 8 ([]:List Int) [77] (fun x:Int=>[Value.int .u32 x]) 54 1 4 (.slice (some ⟨n24+2,0,none⟩) 0 0) (z+7) 1 1 #[.int .u32 77] 54 (0,0) true (some 7) (by simp only[List.length_cons,List.length_nil];omega) (show z≤n24+3 by omega) (fun ax27 cp28 n29 (hn30:n24+3≤n29) => ?_)
 refine BQ 3 0 [] [[o0]] [] [(2,.slice ax27 1 cp28)] rfl Ag ?_
 refine AX [] [] (.slice ax27 1 cp28) Ag ?_
 intro w31 hw31
 have hs32:=hw31
 refine⟨_,_,rfl,hs32,.inr (fun c hc=>hs32.all c (by first | exact hc | exact DI (is:=[0,1,2,3,4,5,6,7,8,9,10,11,12,13,14,15,16,17,18,19,20,21,22]) rfl c hc)), ?_⟩
 refine CZ [1,2,10,78,79,80,100,101,102,105,106,107,108,109,110,113,114,115,118,119,120,123,124,125,126,127,128,129,130,131,132,133,138,139,142] [(Fz z),(F6 z),(F5 w8),(Le z),(79,i6 1),(80,i6 0),(Qa n24),(101,i6 0),(102,.bool false),(Qd n24),(106,i6 0),(PX z),(Qc z),(109,i6 1),(110,.bool false),(PO n24),(114,i6 3),(115,.bool false),(PI n24),(119,i6 3),(120,.bool false),(PM n24),(PU z),(125,i6 1),(PG z),(P9 z),(PY n24),(129,i6 0),(PW z),(PE z),(132,i6 1),(133,.bool false),(138,.map (some (w8.heap.size+1))),(139,.agg #[i6 0,i6 3]),(142,.slice ax27 1 cp28)] ?_
 refine Bo 8 ?_
 refine Bq (an 2 14) [1,2,10,78,79,80,100,101,102,105,106,107,108,109,110,113,114,115,118,119,120,123,124,125,126,127,128,129,130,131,132,133] [Qb (w8.heap.size+1),Qb (w8.heap.size+1)] [(Fz z),(F6 z),(F5 w8),(Le z),(79,i6 1),(80,i6 0),(Qa n24),(101,i6 0),(102,.bool false),(Qd n24),(106,i6 0),(PX z),(Qc z),(109,i6 1),(110,.bool false),(PO n24),(114,i6 3),(115,.bool false),(PI n24),(119,i6 3),(120,.bool false),(PM n24),(PU z),(125,i6 1),(PG z),(P9 z),(PY n24),(129,i6 0),(PW z),(PE z),(132,i6 1),(133,.bool false)] ⟨w,n29,(XW w8 z ax10 cp11 ax22 y21 cp23 n24 lay9 n12 w6 W5 cp28 ax27 w)⟩ [] ⟨rfl,rfl,Ag⟩ (.inl rfl) ?_
 refine D8 9 [0,1,2,3,4,5,6,7,8,9,10,11,12,13,14,15,16,17,18,19,20,21,22,23] (XW w8 z ax10 cp11 ax22 y21 cp23 n24 lay9 n12 w6 W5 cp28 ax27 w) rfl rfl ?_
 refine CV ?_
 refine Ns 4 0 [] [[o0,o0]] [] [(Fz z),(F6 z),(F5 w8),(Le z),(79,i6 1),(80,i6 1),(Qa n24),(101,i6 0),(102,.bool false),(Qd n24),(106,i6 0),(PX z),(Qc z),(109,i6 1),(110,.bool false),(PO n24),(114,i6 3),(115,.bool false),(PI n24),(119,i6 3),(120,.bool false),(PM n24),(PU z),(125,i6 1),(PG z),(P9 z),(PY n24),(129,i6 0),(PW z),(PE z),(132,i6 1),(133,.bool false)] rfl Ag ?_
 refine Un ?_
 refine A7 17 0 [0] [[o0],[o0,o0,o0]] [] [(F5 w8),(144,.slice (some ⟨z+8,0,none⟩) 1 1),(145,i6 1),(146,i6 0)] rfl Ag ?_
 refine Us 40 ?_
 refine q_c 24 0 [1,0] [[o0],[(oi 0),(an 3 9),o0,(an 3 24)],[o0,(a1 24),o0,o0],[o0,o0]] [(0:Int)=((0:Nat):Int),0<1,Dt,Qb (z+8),Qb (z+8),Qb (z+8),Qb n29,Qb n29,Qb n29,Qb n29] [(F5 w8),(144,.slice (some ⟨z+8,0,none⟩) 1 1),(145,i6 1),(146,i6 1)] ⟨w,n29+1,[(Ak w),(Ic z),(H6 z),(G9 z),(G5 z),(H5 z),(GG z),(Ib z),(GN z),(Il z),(IG z),(H9 w6 W5),(mid (w6.heap.size+1) w8),(Iz w8 lay9),(Ch.blk (w8.heap.size+1) (.map #[{ key:= .agg #[i6 0,i6 3],val:= .slice ax27 1 cp28,born:=0 }] 1) true),(O0 w8 ax10 cp11 ax22 y21 cp23),(KF z ax10 cp11),(MO z ax22 y21 cp23),(J5 w8 z),(Ju w8),(Ls y21 n12),(NH z n24),(NZ n24),(Vw z cp28 ax27),(TN z n29)]⟩ rfl ⟨rfl,(by omega),rfl,rfl,rfl,rfl,rfl,rfl,rfl,rfl,Ag⟩ ?_
 refine Un ?_
 refine A7 16 0 [0] [[o0],[o0,o0,o0]] [] [(4,pt (w8.heap.size+2)),(5,i6 0)] rfl Ag ?_
 refine AX [] [] (.tuple #[pt (w8.heap.size+2),i6 0]) Ag ?_
 intro w33 hw33
 refine⟨_,_,rfl,hw33, ?_⟩
 refine BQ 4 0 [] [[o0,o0,o0,o0,o0]] [] [(1,pt (w8.heap.size+2)),(2,i6 0)] rfl Ag ?_
 refine l_call [] [] 10 #[i6 16] (some 22) Ag ?_
 intro w34 hw34
 refine(RQ w34 16 (by omega) (by omega)).mono ?_
 rintro e w35 ⟨mq36,ax37,cp38,rfl,hqw35,w39,hOw35,hkw35⟩
 have hnw35:n29+1≤w35.heap.size:=EO hw34 hkw35
 rw[show w34.heap.size=n29+1 from hw34.size]at hOw35 hqw35
 refine⟨_,_,rfl,hw34.Xf hkw35 hOw35 (Xt hOw35 hqw35), ?_⟩
 refine BQ 12 1 [0] [[o0,o0,o0,o0,o0],[o0,o0,o0,o0,o0,o0,o0,o0,o0,o0,o0,o0,o0,o0],[o0]] [] [(1,pt (w8.heap.size+2)),(3,pt mq36),(40,pt (w8.heap.size+2))] rfl Ag ?_
 refine l_call [] [] 13 #[pt (w8.heap.size+2),i6 0,i6 3,.int .u32 0] (some 41) Ag ?_
 intro w40 hw40
 refine BP (args:=[pt (w8.heap.size+2),i6 0,i6 3,.int .u32 0]) 31 ⟨w,w35.heap.size,[(Ak w),(Ic z),(H6 z),(G9 z),(G5 z),(H5 z),(GG z),(Ib z),(GN z),(Il z),(IG z),(H9 w6 W5),(mid (w6.heap.size+1) w8),(Iz w8 lay9),(Ch.blk (w8.heap.size+1) (.map #[{ key:= .agg #[i6 0,i6 3],val:= .slice ax27 1 cp28,born:=0 }] 1) true),(O0 w8 ax10 cp11 ax22 y21 cp23),(KF z ax10 cp11),(MO z ax22 y21 cp23),(J5 w8 z),(Ju w8),(Ls y21 n12),(NH z n24),(NZ n24),(Vw z cp28 ax27),(TN z n29),(bk mq36 #[.slice ax37 256 cp38] 81),(Vg n29 ax37 cp38)]⟩ Tryd.func13 rfl (by kernel_rfl) (by kernel_rfl) hw40 ?_
 refine A7 25 0 [0,0] [[o0,o0],[o0,o0],[o0,o0,o0,(a1 15),o0,o0,o0,(a1 14),o0],[o0,o0,o0,o0,o0,o0]] [Qb (w8.heap.size+2),Qb (w8.heap.size+1)] [(3,.int .u32 0),(10,.slice ax27 1 cp28),(26,.bool false)] rfl ⟨rfl,rfl,Ag⟩ ?_
 refine I4 (base:=z) (e:=54) (sz:=1) (cells:=(fun x:Int=>[Value.int .u32 x])) (a:=ax27) (n:=1) (cap:=cp28) (xs:=(([]:List Int)++[77])) 23 (by exact(show 0<1 by decide)) (fun b41 hg42 hb43 => ?_)
 subst hg42
 refine DN 6 [0,1,2,3,4,5,6,7,8,9,10,11,12,13,14,15,16,17,18,19,20,21,22,23,24,25,26] (UZ w8 z ax10 cp11 ax22 y21 cp23 n24 n29 lay9 n12 w6 W5 b41 cp28 ax37 cp38 w mq36) rfl rfl ?_
 refine Dc [(0,o0),(1,o0),(2,(oi 0)),(3,(oa [.via 23 (.int .u32 77)])),(4,o0),(5,o0)] [8,9] [(0:Int)=((0:Nat):Int),0<1,Dt,∀ w',Ch.holds (VH z b41 cp28) w'→w'.cell? ⟨b41,0,none⟩=some (.int .u32 77)] (Dj 6 0) [(8,i6 0),(9,.int .u32 77)] ⟨rfl,(by omega),rfl,FH (sz:=1) (j:=0) (k:=0) (fun _=>rfl) (by exact(show 0<1 by decide)) (by rfl),Ag⟩ ?_
 refine CV ?_
 refine BR [8,9] [(8,i6 0),(9,.int .u32 77)] ?_
 refine GZ <| JA <| AX [] [] (.tuple #[i6 0,.int .u32 77]) Ag ?_
 intro w44 hw44
 refine⟨_,_,rfl,hw44, ?_⟩
 refine BQ 4 1 [] [[o0,o0,o0,o0,o0],[o0]] [] [(1,pt (w8.heap.size+2)),(3,pt mq36),(5,i6 0),(6,.int .u32 77),(45,pt (w8.heap.size+2))] rfl Ag ?_
 refine l_call [] [] 13 #[pt (w8.heap.size+2),i6 0,i6 4,.int .u32 0] (some 46) Ag ?_
 intro w45 hw45
 refine BP (args:=[pt (w8.heap.size+2),i6 0,i6 4,.int .u32 0]) 31 ⟨w,w35.heap.size,(UZ w8 z ax10 cp11 ax22 y21 cp23 n24 n29 lay9 n12 w6 W5 b41 cp28 ax37 cp38 w mq36)⟩ Tryd.func13 rfl (by kernel_rfl) (by kernel_rfl) hw45 ?_
 refine A7 27 0 [0,1] [[o0,o0],[o0,o0],[o0,o0,o0,(a1 15),o0,o0,o0,(a1 14),o0],[o0,o0,o0,o0,o0,o0],[o0,o0]] [Qb (w8.heap.size+2),Qb (w8.heap.size+1)] [(8,i6 7),(9,.int .u32 0)] rfl ⟨rfl,rfl,Ag⟩ ?_
 refine AX [] [] (.tuple #[i6 7,.int .u32 0]) Ag ?_
 intro w46 hw46
 refine⟨_,_,rfl,hw46, ?_⟩
 refine BQ 4 2 [] [[o0,o0,o0,o0,o0],[o0,o0]] [] [(1,pt (w8.heap.size+2)),(3,pt mq36),(5,i6 0),(6,.int .u32 77),(7,i6 7),(8,.int .u32 0),(50,pt (w8.heap.size+2)),(51,pt mq36)] rfl Ag ?_
 refine l_call [] [] 12 #[pt (w8.heap.size+2),pt mq36,i6 0] (some 52) Ag ?_
 intro w47 hw47
 (try dsimp only[J5,O0,H6,IG,Ic,H5,Ib,Il,NH,TN,GG,G9,G5,NZ,Ju,Iz,Ls,H9,GN,MO,VH,Vg,KF,UZ]at hw47)
 rw[show y21.State+4=(153:Int)from by rw[hst];rfl]at hw47
 have hq49:=hw47.pick [15,16,17,25,26] rfl rfl
 have hgo:=JO w47 w z (w8.heap.size+2) 16 1 [1] [153] ax10 cp11 ax22 cp23 (.map (some (w8.heap.size+1))) (n29+1) mq36 ax37 256 cp38 (List.replicate 256 0) (by rw[hw47.size];exact hq49) _ rfl (by have:=hw47.size;simp only[]at this;omega) (by have:=hw47.size;simp only[]at this;omega) RH 0 (by exact⟨by decide,by decide⟩);rw[Yy]at hgo
 refine hgo.mono ?_
 rintro e w48 ⟨rfl,hSw48,hkw48⟩
 have hnw48:w35.heap.size≤w48.heap.size:=EO hw47 hkw48
 refine⟨_,_,rfl,hw47.turn [0,1,2,3,4,5,6,7,8,9,10,11,12,13,14,18,19,20,21,22,23,24] [15,16,17,25,26] rfl rfl rfl (by decide) (fun c hc=>by simp only[List.mem_cons,List.not_mem_nil,or_false]at hc;rcases hc with rfl | rfl | rfl | rfl | rfl <;> rfl) hkw48 (fun c hc=>⟨hSw48.all c hc,hSw48.Jr c hc,fun b hb=>⟨hSw48.bnd c hc b hb,.inl (IR ⟨c,hc,hb⟩)⟩⟩) hSw48.IX, ?_⟩
 refine BQ 4 2 [] [[o0,o0,o0,o0,o0],[o0,o0]] [] [(5,i6 0),(6,.int .u32 77),(7,i6 7),(8,.int .u32 0),(9,i6 0),(10,i6 0),(56,pt (w8.heap.size+2)),(57,pt mq36)] rfl Ag ?_
 refine l_call [] [] 12 #[pt (w8.heap.size+2),pt mq36,i6 0] (some 58) Ag ?_
 intro w50 hw50
 have hq52:=hw50.pick [22,23,24,25,26] rfl rfl
 have hgo:=JO w50 w z (w8.heap.size+2) 16 1 [1] [153] ax10 cp11 ax22 cp23 (.map (some (w8.heap.size+1))) (n29+1) mq36 ax37 256 cp38 ((List.replicate 256 0).set 153 1) (by rw[hw50.size];exact hq52) _ rfl (by have:=hw50.size;simp only[]at this;omega) (by have:=hw50.size;simp only[]at this;omega) (UT RH (by decide)) 0 (by exact⟨by decide,by decide⟩);rw[Yh]at hgo
 refine hgo.mono ?_
 rintro e w51 ⟨rfl,hSw51,hkw51⟩
 have hnw51:w48.heap.size≤w51.heap.size:=EO hw50 hkw51
 refine⟨_,_,rfl,hw50.turn [0,1,2,3,4,5,6,7,8,9,10,11,12,13,14,15,16,17,18,19,20,21] [22,23,24,25,26] rfl rfl rfl (by decide) (fun c hc=>by simp only[List.mem_cons,List.not_mem_nil,or_false]at hc;rcases hc with rfl | rfl | rfl | rfl | rfl <;> rfl) hkw51 (fun c hc=>⟨hSw51.all c hc,hSw51.Jr c hc,fun b hb=>⟨hSw51.bnd c hc b hb,.inl (IR ⟨c,hc,hb⟩)⟩⟩) hSw51.IX, ?_⟩
 refine BQ 7 0 [] [[o0,o0,o0,o0,o0],[o0,o0,o0,o0,o0,o0,o0,o0,o0,o0,o0,o0,o0,o0,o0,o0,o0,o0,o0,o0,o0,o0,o0,o0,o0,o0,o0,o0,o0,o0,o0]] [] [(0,.bool true)] rfl Ag ?_
 refine AX [] [] (.bool true) Ag ?_
 intro w53 hw53
 exact⟨rfl,BC hw53⟩
theorem Zo{c:Aj}:∀ i,QV c≤EE c i
 | 0=>Int.le_refl _
 | i+1=>by have:=Zo (c:=c) i;rw[Uw];omega
theorem ZY{c:Aj}(hG:Ad.Good c){q:Nat}(hq:q<c.Aa.xs.length):c.Kernel*16+25+24*(q:Int)<c.Frames*16:=by
 have hok:=Ws hG.err
 have h1:=(Rj (TG hok) _ (Nat.le_refl _)).1
 have h2:=Zo (c:=c) c.Aa.xs.length
 have h3:=hG.need.2;have h4:=hG.Z9
 unfold JK at h3
 rw[if_pos hok]at h3
 unfold QV at h2
 unfold D7 at h1
 omega
theorem outs_in{c:Aj}(hF:Ho c=BU){q:Nat}(hq:q<c.Aa.xs.length):0≤(gd c.Aa.xs q).AA∧(gd c.Aa.xs q).AA≤16:=by
 have h1:DK c q=BU:=by
  rw[←WB hq]
  exact X9 hF _ (by have:=GL (c:=c);omega)
 have h2:=(KL (MR h1)).1
 have h3:=Kv h2 (Ae (win (ES c q).EU 0 16&&win (ES c q).AA 0 16) 407 ⟨(q:Int), -1⟩) (by simp[GY])
 have h4:=(Gn (by decide)).1 h3
 rw[Bool.and_eq_true]at h4
 exact Es h4.2
theorem Nz{c:Aj}{n q:Nat}(hq:q<n):gd (Eb c n) q=(gd c.Aa.xs q).AA:=SL hq
theorem Yt{c:Aj}{n q:Nat}(hq:q<n):gd (Gf c n) q=c.Kernel*16+25+24*(q:Int):=SL hq
theorem ZT{c:Aj}(hF:Ho c=BU):OI c.Aa.xs.length (c.Frames.toNat*16) c.Frames (Eb c c.Aa.xs.length) (Gf c c.Aa.xs.length) (List.replicate (c.Frames.toNat*16) 0):=by
 have hG:=Ve hF
 have h1:=hG.fr;have h2:=hG.pn;have h3:=hG.Z9
 exact⟨SB,V3,List.length_replicate,h2,by omega,by omega,fun q hq=>by have:=ZY hG hq;rw[Yt hq];omega,fun q hq=>by rw[Nz hq];exact outs_in hF hq,fun q hq=>by rw[YH hq];omega⟩
theorem at_inj{c:Aj}{n q:Nat}(hq:q<n):∀ k,k<n→k≠q→gd (Gf c n) k≠gd (Gf c n) q:=fun k hk hne=>by
 rw[Yt hk,Yt hq];omega
section
variable (dp8:Nat)(c:Aj)(ax10:Option Addr)(cp11:Nat)(ax12:Option Addr)(cp13 mp9 mq27:Nat)(ax28:Option Addr)(cp29 z:Nat)(w2 w7:World)(Wo Wi:List Int)(b42 o43:Nat)(ot:Sl Int)(i:Nat)
abbrev LQ:=bk dp8 #[i6 c.Frames,.slice ax10 c.Aa.xs.length cp11,.slice ax12 c.Aa.xs.length cp13,.map (some mp9)] 68
abbrev LP:=bk mq27 #[.slice ax28 (c.Frames.toNat*16) cp29] 81
abbrev KY:=bk z (Aj.arr c) 26
abbrev Md:=CP w2.heap.size 3 1 (fun x:Int=>[i6 x]) (.slice ax10 c.Aa.xs.length cp11) (Eb c c.Aa.xs.length)
abbrev LK:=CP w2.heap.size 3 1 (fun x:Int=>[i6 x]) (.slice ax12 c.Aa.xs.length cp13) (Gf c c.Aa.xs.length)
abbrev Pq:=CP w7.heap.size 54 1 (fun x:Int=>[Value.int .u32 x]) (.slice ax28 (c.Frames.toNat*16) cp29) Wo
abbrev Pg:=CP w7.heap.size 54 1 (fun x:Int=>[Value.int .u32 x]) (.slice ax28 (c.Frames.toNat*16) cp29) Wi
abbrev Ja:CO:=(2,.slice (some ⟨b42,o43,none⟩) ot.xs.length ot.cap)
abbrev Ez:=(11,pt mq27)
abbrev JQ:=(15,i6 ((i+1:Nat):Int))
abbrev Ef:CO:=(2,.slice ot.a ot.xs.length ot.cap)
abbrev D9:=(9,pt dp8)
end
theorem hears_calls(w:World)(hL:Gz w)(c:Aj)(hc:Aj.ok Any w c)(hS:c.Aa.xs.length+c.Am.xs.length+c.BB.xs.length≤15000000000000)(p:Int)(hp:FY .i64 p)(ot:Sl Int)(hot:Ig (fun x:Int=>[Value.int .i64 x]) 1 (fun _ _ n=>FY .i64 n) Any w ot)(times:Int)(htm:0≤times∧times<256):Calls Tryd.prog 4 #[.agg (Aj.arr c),.int .i64 p,.slice ot.a ot.xs.length ot.cap,.int .u8 times] w fun e w'=>e = .returned (.bool true)∧CJ (fun _=>False) w w':=by
 obtain⟨z,hz⟩:∃ z,z=w.heap.size:=⟨_,rfl⟩
 refine BP (args:=[.agg (Aj.arr c),i6 p,.slice ot.a ot.xs.length ot.cap,.int .u8 times]) 132 ⟨w,z,[(Ak w)]⟩ Tryd.func4 rfl (by kernel_rfl) (by kernel_rfl) (EQ hz) ?_
 have hpI:(-9223372036854775808:Int)≤p∧p≤9223372036854775807:=hp;have hpl:=hc.Aa.1.len;have hol:=hot.1.len
 refine DZ [0,1,2,3] [(0,.agg (Aj.arr c)),(1,i6 p),(Ef ot),(3,.int .u8 times)] ?_
 refine q_c 7 1 [] [[o0,o0],[(an 7 1)]] [Qb z,Qb z,Qb z,Qb z,Qb z,Qb z,Qb z] [(1,i6 p),(Ef ot),(3,.int .u8 times),(4,pt z),(18,.agg (Aj.arr c))] ⟨w,z+1,[(Ak w),(KY c z)]⟩ rfl ⟨rfl,rfl,rfl,rfl,rfl,rfl,rfl,Ag⟩ ?_
 refine l_call [] [] 6 #[.agg (Aj.arr c)] (some 19) Ag ?_
 intro w1 hw1
 refine(XX w1 c (hc.ext (hw1.ext rfl) (fun _ h=>h))).mono ?_
 rintro e w2 ⟨bv3,rfl,hkw2⟩
 have hnw2:z+1≤w2.heap.size:=EO hw1 hkw2
 refine⟨_,_,rfl,hw1.keeps hkw2, ?_⟩
 refine Dz [1,2,3,4,19] [(1,i6 p),(Ef ot),(3,.int .u8 times),(4,pt z),(19,.bool bv3)] ?_
 refine Yi (by kernel_rfl) ?_
 refine GZ ?_
 by_cases h4:bv3=true
 ·refine A7 6 0 [3] [[o0]] [Value.bool bv3=Value.bool true] [(8,.bool true)] rfl ⟨(congrArg Value.bool h4),Ag⟩ ?_
  refine AX [] [] (.bool true) Ag ?_
  intro w5 hw5
  exact⟨rfl,BC hw5⟩
 refine A7 5 1 [2] [[(an 7 1)]] [Value.bool bv3=Value.bool false,Qb z,Qb z,Qb z,Qb z,Qb z,Qb z,Qb z] [(1,i6 p),(Ef ot),(3,.int .u8 times),(4,pt z),(21,.agg (Aj.arr c))] rfl ⟨(congrArg Value.bool (Bool.eq_false_iff.2 h4)),rfl,rfl,rfl,rfl,rfl,rfl,rfl,Ag⟩ ?_
 refine l_call [] [] 8 #[.agg (Aj.arr c),.slice none 0 0] (some 22) Ag ?_
 intro w6 hw6
 refine(Yc w6 (hL.ext (hw6.ext rfl)) c (hc.ext (hw6.ext rfl) (fun _ h=>h)) hS).mono ?_
 rintro e w7 ⟨⟨hne,rfl⟩ | ⟨hF,dp8,mp9,ax10,cp11,ax12,cp13,w14,rfl,hq1,hq2,hOS⟩,hkw7⟩
 ·have hnw7:w2.heap.size≤w7.heap.size:=EO hw6 hkw7
  refine⟨_,_,rfl,hw6.keeps hkw7, ?_⟩
  refine BQ 10 0 [1] [[o0,o0,o0,o0,o0],[o0,o0,o0,o0,o0,o0,o0,o0]] [] [(1,i6 p),(Ef ot),(3,.int .u8 times),(4,pt z),(9,.pointer none),(41,.bool true)] rfl Ag ?_
  refine Bz 7 #[] (some 42) (.bool true) (fun w15 hw15=>OW w15 (hL.ext (hw15.ext rfl))) (fun n16 (hn17:w7.heap.size≤n16) => ?_)
  refine BQ 3 0 [] [[o0]] [] [(8,.bool true)] rfl Ag ?_
  refine AX [] [] (.bool true) Ag ?_
  intro w18 hw18
  exact⟨rfl,BC hw18⟩
 have hnw7:w2.heap.size≤w7.heap.size:=EO hw6 hkw7
 have hG:=Ve hF;have hGf:=hG.fr;have hGp:=hG.pn
 rw[show w6.heap.size=w2.heap.size from hw6.size]at hq1 hq2 hOS
 refine⟨_,_,rfl,hw6.Xf hkw7 hOS (ZU hOS hq1 hq2), ?_⟩
 refine BQ 4 0 [] [[o0,o0,o0,o0,o0]] [] [(1,i6 p),(Ef ot),(3,.int .u8 times),(4,pt z),(D9 dp8),(10,i6 0)] rfl Ag ?_
 by_cases h19:(p:Int)<0
 ·refine A7 6 0 [1] [[o0,o0,o0,o0,o0,o0,o0,o0,oT,o0,o0,o0]] [BT ((p:Int)<0)] [(1,i6 p),(Ef ot),(3,.int .u8 times),(4,pt z),(D9 dp8),(41,.bool true)] rfl ⟨bt,Ag⟩ ?_
  refine Bz 7 #[] (some 42) (.bool true) (fun w20 hw20=>OW w20 (hL.ext (hw20.ext rfl))) (fun n21 (hn22:w7.heap.size≤n21) => ?_)
  refine BQ 3 0 [] [[o0]] [] [(8,.bool true)] rfl Ag ?_
  refine AX [] [] (.bool true) Ag ?_
  intro w23 hw23
  exact⟨rfl,BC hw23⟩
 by_cases h24:(p:Int)<(c.Aa.xs.length:Int)
 ·refine A7 8 2 [0] [[o0,o0,o0,o0,o0,o0,o0,o0,oF,o0,o0,o0,o0,(a1 1),o0,oF,o0],[o0,(a1 1)]] [BF ((p:Int)<0),Qb z,BF ((p:Int)≥(c.Aa.xs.length:Int)),Qb z] [(1,i6 p),(Ef ot),(3,.int .u8 times),(4,pt z),(D9 dp8),(45,i6 c.Frames)] rfl ⟨bf,rfl,bf,rfl,Ag⟩ ?_
  refine l_call [] [] 10 #[i6 c.Frames] (some 46) Ag ?_
  intro w25 hw25
  have hgo:=RQ w25 c.Frames.toNat (by omega) (by omega);rw[show(c.Frames.toNat:Int)=c.Frames from by omega]at hgo
  refine hgo.mono ?_
  rintro e w26 ⟨mq27,ax28,cp29,rfl,hqw26,w30,hOw26,hkw26⟩
  have hnw26:w7.heap.size≤w26.heap.size:=EO hw25 hkw26
  rw[show w25.heap.size=w7.heap.size from hw25.size]at hOw26 hqw26
  refine⟨_,_,rfl,hw25.Xf hkw26 hOw26 (Xt hOw26 hqw26), ?_⟩
  refine BQ 16 0 [0] [[o0,o0,o0,o0,o0],[o0,o0,o0,o0,o0,o0],[o0]] [] [(1,i6 p),(Ef ot),(3,.int .u8 times),(4,pt z),(D9 dp8),(Ez mq27),(13,i6 0)] rfl Ag ?_
  refine DW (fun m a w'=>∃ (n32:Nat) (kr:Nat) (Wo:List Int),m=2 - kr∧w26.heap.size≤n32∧(kr≤2)∧(OI c.Aa.xs.length (c.Frames.toNat*16) c.Frames (Eb c c.Aa.xs.length) (Gf c c.Aa.xs.length) Wo)∧St 132 [(1,i6 p),(Ef ot),(3,.int .u8 times),(4,pt z),(D9 dp8),(Ez mq27),(13,Ac kr)] [] ⟨w,n32,[(Ak w),(KY c z),(LQ dp8 c ax10 cp11 ax12 cp13 mp9),(Md c ax10 cp11 w2),(LK c ax12 cp13 w2),(Ch.blk mp9 (.map #[] 0) true),(LP c mq27 ax28 cp29),(Pq c ax28 cp29 w7 Wo)]⟩ a w') (2 - 0) ?_ ?_
  ·intro a w' hs;exact⟨w26.heap.size,0,(List.replicate (c.Frames.toNat*16) 0),rfl,Nat.le_refl _,Nat.zero_le _,ZT hF,hs⟩
  rintro m a w' ⟨n32,kr,Wo,rfl,hn31,hkkr,hDo,hs⟩
  refine(?_:G Tryd.prog 132 [(1,i6 p),(Ef ot),(3,.int .u8 times),(4,pt z),(D9 dp8),(Ez mq27),(13,Ac kr)] [] ⟨w,n32,[(Ak w),(KY c z),(LQ dp8 c ax10 cp11 ax12 cp13 mp9),(Md c ax10 cp11 w2),(LK c ax12 cp13 w2),(Ch.blk mp9 (.map #[] 0) true),(LP c mq27 ax28 cp29),(Pq c ax28 cp29 w7 Wo)]⟩ _ _ _) a w' hs
  clear hs a w'
  have hlO:=hDo.oI p.toNat (by omega);have hlA:=hDo.aI p.toNat (by omega);have hlW:=hDo.wl
  refine DC <| DC ?_
  by_cases h33:(kr:Int)<2
  ·refine q_c 11 4 [1] [[o0,oT],[o0,o0,o0,o0]] [BT ((kr:Int)<2)] [(1,i6 p),(Ef ot),(3,.int .u8 times),(4,pt z),(D9 dp8),(Ez mq27),(13,Ac kr),(59,pt dp8),(60,pt mq27),(62,.slice (some ⟨n32,0,none⟩) 1 1)] ⟨w,n32+1,[(Ak w),(KY c z),(LQ dp8 c ax10 cp11 ax12 cp13 mp9),(Md c ax10 cp11 w2),(LK c ax12 cp13 w2),(Ch.blk mp9 (.map #[] 0) true),(LP c mq27 ax28 cp29),(Pq c ax28 cp29 w7 Wo),(bk n32 #[i6 p] 3)]⟩ rfl ⟨bt,Ag⟩ ?_
   refine l_call [] [] 11 #[pt dp8,pt mq27,.slice (some ⟨n32,0,none⟩) 1 1] (some 63) Ag ?_
   intro w34 hw34
   have hq36:=hw34.pick [2,3,4,6,7] rfl rfl
   have hgo:=Zx w34 w w2.heap.size dp8 c.Frames c.Aa.xs.length (Eb c c.Aa.xs.length) (Gf c c.Aa.xs.length) ax10 cp11 ax12 cp13 (.map (some mp9)) w7.heap.size mq27 ax28 (c.Frames.toNat*16) cp29 Wo (by rw[hw34.size];exact hq36) _ rfl (by have:=hw34.size;simp only[]at this;omega) (by have:=hw34.size;simp only[]at this;omega) hDo p (by omega) (by omega) ⟨some ⟨n32,0,none⟩,1,[p]⟩ (Yv hw34 (MH hw34 (cells:=(fun x:Int=>[i6 x])) (sz:=1) (ok:=fun _ _ n=>FY .i64 n) (i:=8) (fun _=>rfl) [p] (MJ (p:=fun n=>FY .i64 n) hp Oy)) (i:=8) rfl [2,3,4,6,7] rfl rfl WW) rfl
   have hD37:=UT (a:=(gd (Gf c c.Aa.xs.length) p.toNat).toNat) (v:=0) hDo (by decide)
   refine hgo.mono ?_
   rintro e w35 ⟨rfl,hSw35,hkw35⟩
   have hnw35:n32+1≤w35.heap.size:=EO hw34 hkw35
   refine⟨_,_,rfl,hw34.turn [0,1,5,8] [2,3,4,6,7] rfl rfl rfl (by decide) (fun c hc=>by simp only[List.mem_cons,List.not_mem_nil,or_false]at hc;rcases hc with rfl | rfl | rfl | rfl | rfl <;> rfl) hkw35 (fun c hc=>⟨hSw35.all c hc,hSw35.Jr c hc,fun b hb=>⟨hSw35.bnd c hc b hb,.inl (IR ⟨c,hc,hb⟩)⟩⟩) hSw35.IX, ?_⟩
   refine BQ 15 0 [0] [[o0],[o0],[o0]] [] [(1,i6 p),(Ef ot),(3,.int .u8 times),(4,pt z),(D9 dp8),(Ez mq27),(13,Ac kr),(14,i6 0),(15,i6 0)] rfl Ag ?_
   refine DW (fun m a w'=>∃ (n39:Nat) (i:Nat) (Wi:List Int) (og:Int),m=(times % 64).toNat - i∧w35.heap.size≤n39∧(i≤(times % 64).toNat)∧(OI c.Aa.xs.length (c.Frames.toNat*16) c.Frames (Eb c c.Aa.xs.length) (Gf c c.Aa.xs.length) Wi)∧(((i:Int)≤gd (Eb c c.Aa.xs.length) p.toNat∧og=(i:Int))∨(gd (Eb c c.Aa.xs.length) p.toNat≤(i:Int)∧og=gd (Eb c c.Aa.xs.length) p.toNat))∧(gd Wi (gd (Gf c c.Aa.xs.length) p.toNat).toNat=og)∧St 132 [(1,i6 p),(Ef ot),(3,.int .u8 times),(4,pt z),(D9 dp8),(Ez mq27),(13,Ac kr),(14,i6 og),(15,Ac i)] [] ⟨w,n39,[(Ak w),(KY c z),(Ch.blk mp9 (.map #[] 0) true),(bk n32 #[i6 p] 3),(LQ dp8 c ax10 cp11 ax12 cp13 mp9),(Md c ax10 cp11 w2),(LK c ax12 cp13 w2),(LP c mq27 ax28 cp29),(Pg c ax28 cp29 w7 Wi)]⟩ a w') ((times % 64).toNat - 0) ?_ ?_
   ·intro a w' hs;exact⟨w35.heap.size,0,(Wo.set (gd (Gf c c.Aa.xs.length) p.toNat).toNat 0),0,rfl,Nat.le_refl _,Nat.zero_le _,hD37,by omega,(Ou (by omega)),hs⟩
   rintro m a w' ⟨n39,i,Wi,og,rfl,hn38,hki,hDi,hog,hwg,hs⟩
   refine(?_:G Tryd.prog 132 [(1,i6 p),(Ef ot),(3,.int .u8 times),(4,pt z),(D9 dp8),(Ez mq27),(13,Ac kr),(14,i6 og),(15,Ac i)] [] ⟨w,n39,[(Ak w),(KY c z),(Ch.blk mp9 (.map #[] 0) true),(bk n32 #[i6 p] 3),(LQ dp8 c ax10 cp11 ax12 cp13 mp9),(Md c ax10 cp11 w2),(LK c ax12 cp13 w2),(LP c mq27 ax28 cp29),(Pg c ax28 cp29 w7 Wi)]⟩ _ _ _) a w' hs
   clear hs a w'
   refine DC <| DC ?_
   by_cases h40:(i:Int)<times % 64
   ·refine A7 10 0 [1] [[o0,o0,(ov (.int .u8 (times % 64))),(ov (i6 (times % 64))),oT]] [Value.int .u8 (Int.tmod (times) 64)=Value.int .u8 (times % 64),Wr (times % 64) (times % 64),BT ((i:Int)<(times % 64))] [(1,i6 p),(Ef ot),(3,.int .u8 times),(4,pt z),(D9 dp8),(Ez mq27),(13,Ac kr),(14,i6 og),(15,Ac i),(69,.bool true)] rfl ⟨congrArg (Value.int .u8) (XL (by omega) (by omega)),CU rfl,bt,Ag⟩ ?_
    by_cases h41:(i:Int)<(ot.xs.length:Int)
    ·obtain⟨b42,o43,ha44,hF46,hc45⟩:=(hot).1.all (show 0<ot.xs.length by omega)
     replace ha44:ot.a=some ⟨b42,o43,none⟩:=ha44
     refine IM [(1,i6 p),(Ja b42 o43 ot),(3,.int .u8 times),(4,pt z),(D9 dp8),(Ez mq27),(13,Ac kr),(14,i6 og),(15,Ac i),(69,.bool true)] (by(try dsimp only[LQ,LP,KY,Md,LK,Pq,Pg,Ja,Ez,Ef,D9]);simp only[ha44]) ?_
     have hc47:=hc45 i (show i<ot.xs.length by omega)
     have he48:=(hot).2 i (show i<ot.xs.length by omega)
     obtain⟨y49,hy49⟩:∃ y_,y_=gd ot.xs i:=⟨_,rfl⟩
     rw[←hy49]at he48 hc47
     have hyby49:(-9223372036854775808:Int)≤y49∧y49≤9223372036854775807:=he48
     by_cases h50:(y49:Int)=p
     ·refine A7 8 3 [0] [[o0,o0,o0,oT,o0,o0,o0,(oi i),(oa [.via 0 (i6 y49)]),o0,oF,o0],[o0,o0,o0]] [BT ((i:Int)<(ot.xs.length:Int)),Ed i,i<ot.xs.length,Dt,Old w b42 (o43+i) (i6 y49),NF y49 p] [(1,i6 p),(Ja b42 o43 ot),(3,.int .u8 times),(4,pt z),(D9 dp8),(Ez mq27),(13,Ac kr),(14,i6 og),(15,Ac i),(92,pt dp8),(93,pt mq27),(94,i6 p)] rfl ⟨bt,rfl,(by omega),rfl,Aq (hc47 0 _ rfl),nf,Ag⟩ ?_
      refine l_call [] [] 12 #[pt dp8,pt mq27,i6 p] (some 95) Ag ?_
      intro w51 hw51
      by_cases hb52:gd Wi (gd (Gf c c.Aa.xs.length) p.toNat).toNat<gd (Eb c c.Aa.xs.length) p.toNat
      ·have hq54:=hw51.pick [4,5,6,7,8] rfl rfl
       have hgo:=JO w51 w w2.heap.size dp8 c.Frames c.Aa.xs.length (Eb c c.Aa.xs.length) (Gf c c.Aa.xs.length) ax10 cp11 ax12 cp13 (.map (some mp9)) w7.heap.size mq27 ax28 (c.Frames.toNat*16) cp29 Wi (by rw[hw51.size];exact hq54) _ rfl (by have:=hw51.size;simp only[]at this;omega) (by have:=hw51.size;simp only[]at this;omega) hDi p hp;rw[Qx hDi (by omega) (by omega) (by omega)]at hgo
       have hD55:=U0 (p:=p) hDi;rw[Qx hDi (by omega) (by omega) (by omega)]at hD55
       refine hgo.mono ?_
       rintro e w53 ⟨rfl,hSw53,hkw53⟩
       have hnw53:n39≤w53.heap.size:=EO hw51 hkw53
       refine⟨_,_,rfl,hw51.turn [0,1,2,3] [4,5,6,7,8] rfl rfl rfl (by decide) (fun c hc=>by simp only[List.mem_cons,List.not_mem_nil,or_false]at hc;rcases hc with rfl | rfl | rfl | rfl | rfl <;> rfl) hkw53 (fun c hc=>⟨hSw53.all c hc,hSw53.Jr c hc,fun b hb=>⟨hSw53.bnd c hc b hb,.inl (IR ⟨c,hc,hb⟩)⟩⟩) hSw53.IX, ?_⟩
       refine BQ 20 0 [0,1] [[o0,o0,o0,o0,o0],[o0,o0,o0,o0,o0,o0,o0,o0],[o0,o0],[o0,(ov (i6 (og+1))),o0]] [Wr ((og:Int)+1) (og+1)] [(1,i6 p),(Ja b42 o43 ot),(3,.int .u8 times),(4,pt z),(D9 dp8),(Ez mq27),(13,Ac kr),(14,i6 (og+1)),(15,Ac i),(16,i6 0)] rfl ⟨CU,Ag⟩ ?_
       obtain⟨b56,o57,ha58,hF60,hc59⟩:=(hc.Aa).1.all (show 0<c.Aa.xs.length by omega)
       replace ha58:c.Aa.a=some ⟨b56,o57,none⟩:=ha58
       have hc61:=hc59 ((p).toNat) (show(p).toNat<c.Aa.xs.length by omega)
       have he62:=(hc.Aa).2 ((p).toNat) (show(p).toNat<c.Aa.xs.length by omega)
       obtain⟨y63,hy63⟩:∃ y_,y_=gd c.Aa.xs ((p).toNat):=⟨_,rfl⟩
       rw[←hy63]at he62 hc61
       have hyoy63:gd (Eb c c.Aa.xs.length) p.toNat=y63.AA:=by rw[hy63];exact Nz (by omega)
       refine A7 9 0 [0] [[o0,o0,o0,o0,(Jk 1 b56 o57 c.Aa),o0,(oi ((p).toNat)),o0,(oa [.via 0 (i6 y63.AA)]),oT,o0],[o0,(ov (i6 ((i+1:Nat):Int))),o0]] [Qb z,IQ b56 o57 c.Aa,(p:Int)=(((p).toNat:Nat):Int),(p).toNat<c.Aa.xs.length,Dt,Old w b56 (o57+((p).toNat)*8+5) (i6 y63.AA),BT ((i:Int)<y63.AA),Wr ((i:Int)+1) (((i+1:Nat):Int))] [(1,i6 p),(Ja b42 o43 ot),(3,.int .u8 times),(4,pt z),(D9 dp8),(Ez mq27),(13,Ac kr),(14,i6 (og+1)),(JQ i)] rfl ⟨rfl,IP ha58,(by omega),(by omega),rfl,Aq (hc61 5 _ rfl),bt,CU,Ag⟩ ?_
       refine Fj [1,2,3,4,9,11,13,14,15] [(1,i6 p),(Ef ot),(3,.int .u8 times),(4,pt z),(D9 dp8),(Ez mq27),(13,Ac kr),(14,i6 (og+1)),(JQ i)] (by(try dsimp only[LQ,LP,KY,Md,LK,Pq,Pg,Ja,Ez,JQ,Ef,D9]);simp only[ha44];rfl) ?_
       refine Cj (fun a w' hs=>⟨(times % 64).toNat - (i+1),by omega,w53.heap.size,(i+1),(Wi.set (gd (Gf c c.Aa.xs.length) p.toNat).toNat (gd Wi (gd (Gf c c.Aa.xs.length) p.toNat).toNat+1)),(og+1),rfl,by omega,by omega,hD55,by omega,(by rw[Ou (by have:=hDi.wl;omega)];omega),hs⟩)
      have hq65:=hw51.pick [4,5,6,7,8] rfl rfl
      have hgo:=JO w51 w w2.heap.size dp8 c.Frames c.Aa.xs.length (Eb c c.Aa.xs.length) (Gf c c.Aa.xs.length) ax10 cp11 ax12 cp13 (.map (some mp9)) w7.heap.size mq27 ax28 (c.Frames.toNat*16) cp29 Wi (by rw[hw51.size];exact hq65) _ rfl (by have:=hw51.size;simp only[]at this;omega) (by have:=hw51.size;simp only[]at this;omega) hDi p hp;rw[UM hDi (by omega) (by omega) (by omega)]at hgo
      refine hgo.mono ?_
      rintro e w64 ⟨rfl,hSw64,hkw64⟩
      have hnw64:n39≤w64.heap.size:=EO hw51 hkw64
      refine⟨_,_,rfl,hw51.turn [0,1,2,3] [4,5,6,7,8] rfl rfl rfl (by decide) (fun c hc=>by simp only[List.mem_cons,List.not_mem_nil,or_false]at hc;rcases hc with rfl | rfl | rfl | rfl | rfl <;> rfl) hkw64 (fun c hc=>⟨hSw64.all c hc,hSw64.Jr c hc,fun b hb=>⟨hSw64.bnd c hc b hb,.inl (IR ⟨c,hc,hb⟩)⟩⟩) hSw64.IX, ?_⟩
      refine BQ 19 0 [0,0] [[o0,o0,o0,o0,o0],[o0,o0,o0,o0,o0,o0,o0,o0,o0,o0],[o0,o0]] [] [(1,i6 p),(Ja b42 o43 ot),(3,.int .u8 times),(4,pt z),(D9 dp8),(Ez mq27),(13,Ac kr),(14,i6 og),(15,Ac i),(16,i6 5),(109,.bool false)] rfl Ag ?_
      obtain⟨b66,o67,ha68,hF70,hc69⟩:=(hc.Aa).1.all (show 0<c.Aa.xs.length by omega)
      replace ha68:c.Aa.a=some ⟨b66,o67,none⟩:=ha68
      have hc71:=hc69 ((p).toNat) (show(p).toNat<c.Aa.xs.length by omega)
      have he72:=(hc.Aa).2 ((p).toNat) (show(p).toNat<c.Aa.xs.length by omega)
      obtain⟨y73,hy73⟩:∃ y_,y_=gd c.Aa.xs ((p).toNat):=⟨_,rfl⟩
      rw[←hy73]at he72 hc71
      have hyoy73:gd (Eb c c.Aa.xs.length) p.toNat=y73.AA:=by rw[hy73];exact Nz (by omega)
      refine A7 9 0 [0] [[o0,o0,o0,o0,(Jk 1 b66 o67 c.Aa),o0,(oi ((p).toNat)),o0,(oa [.via 0 (i6 y73.AA)]),oF,o0],[o0,(ov (i6 ((i+1:Nat):Int))),o0]] [Qb z,IQ b66 o67 c.Aa,(p:Int)=(((p).toNat:Nat):Int),(p).toNat<c.Aa.xs.length,Dt,Old w b66 (o67+((p).toNat)*8+5) (i6 y73.AA),BF ((i:Int)<y73.AA),Wr ((i:Int)+1) (((i+1:Nat):Int))] [(1,i6 p),(Ja b42 o43 ot),(3,.int .u8 times),(4,pt z),(D9 dp8),(Ez mq27),(13,Ac kr),(14,i6 og),(JQ i)] rfl ⟨rfl,IP ha68,(by omega),(by omega),rfl,Aq (hc71 5 _ rfl),bf,CU,Ag⟩ ?_
      refine Fj [1,2,3,4,9,11,13,14,15] [(1,i6 p),(Ef ot),(3,.int .u8 times),(4,pt z),(D9 dp8),(Ez mq27),(13,Ac kr),(14,i6 og),(JQ i)] (by(try dsimp only[LQ,LP,KY,Md,LK,Pq,Pg,Ja,Ez,JQ,Ef,D9]);simp only[ha44];rfl) ?_
      refine Cj (fun a w' hs=>⟨(times % 64).toNat - (i+1),by omega,w64.heap.size,(i+1),Wi,og,rfl,by omega,by omega,hDi,by omega,by omega,hs⟩)
     refine A7 5 6 [1] [[o0,o0,o0,oT,o0,o0,o0,(oi i),(oa [.via 0 (i6 y49)]),o0,oT,o0],[o0,o0,o0,o0,(oi i),(oa [.via 0 (i6 y49)])]] [BT ((i:Int)<(ot.xs.length:Int)),Ed i,i<ot.xs.length,Dt,Old w b42 (o43+i) (i6 y49),NT y49 p,Ed i,i<ot.xs.length,Dt,Old w b42 (o43+i) (i6 y49)] [(1,i6 p),(Ja b42 o43 ot),(3,.int .u8 times),(4,pt z),(D9 dp8),(Ez mq27),(13,Ac kr),(14,i6 og),(15,Ac i),(84,pt dp8),(85,pt mq27),(89,i6 y49)] rfl ⟨bt,rfl,(by omega),rfl,Aq (hc47 0 _ rfl),nt,rfl,(by omega),rfl,Aq (hc47 0 _ rfl),Ag⟩ ?_
     refine l_call [] [] 12 #[pt dp8,pt mq27,i6 y49] (some 90) Ag ?_
     intro w74 hw74
     have hq76:=hw74.pick [4,5,6,7,8] rfl rfl
     have hD77:=U0 (p:=y49) hDi
     have hW78:=Zp (p:=y49) hDi (q:=p.toNat) (by omega) (by omega) (at_inj (by omega))
     have hgo:=JO w74 w w2.heap.size dp8 c.Frames c.Aa.xs.length (Eb c c.Aa.xs.length) (Gf c c.Aa.xs.length) ax10 cp11 ax12 cp13 (.map (some mp9)) w7.heap.size mq27 ax28 (c.Frames.toNat*16) cp29 Wi (by rw[hw74.size];exact hq76) _ rfl (by have:=hw74.size;simp only[]at this;omega) (by have:=hw74.size;simp only[]at this;omega) hDi y49 (he48)
     refine hgo.mono ?_
     rintro e w75 ⟨rfl,hSw75,hkw75⟩
     have hnw75:n39≤w75.heap.size:=EO hw74 hkw75
     refine⟨_,_,rfl,hw74.turn [0,1,2,3] [4,5,6,7,8] rfl rfl rfl (by decide) (fun c hc=>by simp only[List.mem_cons,List.not_mem_nil,or_false]at hc;rcases hc with rfl | rfl | rfl | rfl | rfl <;> rfl) hkw75 (fun c hc=>⟨hSw75.all c hc,hSw75.Jr c hc,fun b hb=>⟨hSw75.bnd c hc b hb,.inl (IR ⟨c,hc,hb⟩)⟩⟩) hSw75.IX, ?_⟩
     refine BQ 4 3 [] [[],[o0,o0,o0]] [] [(1,i6 p),(Ja b42 o43 ot),(3,.int .u8 times),(4,pt z),(D9 dp8),(Ez mq27),(13,Ac kr),(14,i6 og),(15,Ac i),(92,pt dp8),(93,pt mq27),(94,i6 p)] rfl Ag ?_
     refine l_call [] [] 12 #[pt dp8,pt mq27,i6 p] (some 95) Ag ?_
     intro w79 hw79
     by_cases hb80:gd ((Jv (Eb c c.Aa.xs.length) (Gf c c.Aa.xs.length) Wi y49).2.2) (gd (Gf c c.Aa.xs.length) p.toNat).toNat<gd (Eb c c.Aa.xs.length) p.toNat
     ·have hq82:=hw79.pick [4,5,6,7,8] rfl rfl
      have hgo:=JO w79 w w2.heap.size dp8 c.Frames c.Aa.xs.length (Eb c c.Aa.xs.length) (Gf c c.Aa.xs.length) ax10 cp11 ax12 cp13 (.map (some mp9)) w7.heap.size mq27 ax28 (c.Frames.toNat*16) cp29 (Jv (Eb c c.Aa.xs.length) (Gf c c.Aa.xs.length) Wi y49).2.2 (by rw[hw79.size];exact hq82) _ rfl (by have:=hw79.size;simp only[]at this;omega) (by have:=hw79.size;simp only[]at this;omega) hD77 p hp;rw[Qx hD77 (by omega) (by omega) (by omega)]at hgo
      have hD83:=U0 (p:=p) hD77;rw[Qx hD77 (by omega) (by omega) (by omega)]at hD83
      refine hgo.mono ?_
      rintro e w81 ⟨rfl,hSw81,hkw81⟩
      have hnw81:w75.heap.size≤w81.heap.size:=EO hw79 hkw81
      refine⟨_,_,rfl,hw79.turn [0,1,2,3] [4,5,6,7,8] rfl rfl rfl (by decide) (fun c hc=>by simp only[List.mem_cons,List.not_mem_nil,or_false]at hc;rcases hc with rfl | rfl | rfl | rfl | rfl <;> rfl) hkw81 (fun c hc=>⟨hSw81.all c hc,hSw81.Jr c hc,fun b hb=>⟨hSw81.bnd c hc b hb,.inl (IR ⟨c,hc,hb⟩)⟩⟩) hSw81.IX, ?_⟩
      refine BQ 20 0 [0,1] [[o0,o0,o0,o0,o0],[o0,o0,o0,o0,o0,o0,o0,o0],[o0,o0],[o0,(ov (i6 (og+1))),o0]] [Wr ((og:Int)+1) (og+1)] [(1,i6 p),(Ja b42 o43 ot),(3,.int .u8 times),(4,pt z),(D9 dp8),(Ez mq27),(13,Ac kr),(14,i6 (og+1)),(15,Ac i),(16,i6 0)] rfl ⟨CU,Ag⟩ ?_
      obtain⟨b84,o85,ha86,hF88,hc87⟩:=(hc.Aa).1.all (show 0<c.Aa.xs.length by omega)
      replace ha86:c.Aa.a=some ⟨b84,o85,none⟩:=ha86
      have hc89:=hc87 ((p).toNat) (show(p).toNat<c.Aa.xs.length by omega)
      have he90:=(hc.Aa).2 ((p).toNat) (show(p).toNat<c.Aa.xs.length by omega)
      obtain⟨y91,hy91⟩:∃ y_,y_=gd c.Aa.xs ((p).toNat):=⟨_,rfl⟩
      rw[←hy91]at he90 hc89
      have hyoy91:gd (Eb c c.Aa.xs.length) p.toNat=y91.AA:=by rw[hy91];exact Nz (by omega)
      refine A7 9 0 [0] [[o0,o0,o0,o0,(Jk 1 b84 o85 c.Aa),o0,(oi ((p).toNat)),o0,(oa [.via 0 (i6 y91.AA)]),oT,o0],[o0,(ov (i6 ((i+1:Nat):Int))),o0]] [Qb z,IQ b84 o85 c.Aa,(p:Int)=(((p).toNat:Nat):Int),(p).toNat<c.Aa.xs.length,Dt,Old w b84 (o85+((p).toNat)*8+5) (i6 y91.AA),BT ((i:Int)<y91.AA),Wr ((i:Int)+1) (((i+1:Nat):Int))] [(1,i6 p),(Ja b42 o43 ot),(3,.int .u8 times),(4,pt z),(D9 dp8),(Ez mq27),(13,Ac kr),(14,i6 (og+1)),(JQ i)] rfl ⟨rfl,IP ha86,(by omega),(by omega),rfl,Aq (hc89 5 _ rfl),bt,CU,Ag⟩ ?_
      refine Fj [1,2,3,4,9,11,13,14,15] [(1,i6 p),(Ef ot),(3,.int .u8 times),(4,pt z),(D9 dp8),(Ez mq27),(13,Ac kr),(14,i6 (og+1)),(JQ i)] (by(try dsimp only[LQ,LP,KY,Md,LK,Pq,Pg,Ja,Ez,JQ,Ef,D9]);simp only[ha44];rfl) ?_
      refine Cj (fun a w' hs=>⟨(times % 64).toNat - (i+1),by omega,w81.heap.size,(i+1),(((Jv (Eb c c.Aa.xs.length) (Gf c c.Aa.xs.length) Wi y49).2.2).set (gd (Gf c c.Aa.xs.length) p.toNat).toNat (gd ((Jv (Eb c c.Aa.xs.length) (Gf c c.Aa.xs.length) Wi y49).2.2) (gd (Gf c c.Aa.xs.length) p.toNat).toNat+1)),(og+1),rfl,by omega,by omega,hD83,by omega,(by rw[Ou (by have:=hD77.wl;omega)];omega),hs⟩)
     have hq93:=hw79.pick [4,5,6,7,8] rfl rfl
     have hgo:=JO w79 w w2.heap.size dp8 c.Frames c.Aa.xs.length (Eb c c.Aa.xs.length) (Gf c c.Aa.xs.length) ax10 cp11 ax12 cp13 (.map (some mp9)) w7.heap.size mq27 ax28 (c.Frames.toNat*16) cp29 (Jv (Eb c c.Aa.xs.length) (Gf c c.Aa.xs.length) Wi y49).2.2 (by rw[hw79.size];exact hq93) _ rfl (by have:=hw79.size;simp only[]at this;omega) (by have:=hw79.size;simp only[]at this;omega) hD77 p hp;rw[UM hD77 (by omega) (by omega) (by omega)]at hgo
     refine hgo.mono ?_
     rintro e w92 ⟨rfl,hSw92,hkw92⟩
     have hnw92:w75.heap.size≤w92.heap.size:=EO hw79 hkw92
     refine⟨_,_,rfl,hw79.turn [0,1,2,3] [4,5,6,7,8] rfl rfl rfl (by decide) (fun c hc=>by simp only[List.mem_cons,List.not_mem_nil,or_false]at hc;rcases hc with rfl | rfl | rfl | rfl | rfl <;> rfl) hkw92 (fun c hc=>⟨hSw92.all c hc,hSw92.Jr c hc,fun b hb=>⟨hSw92.bnd c hc b hb,.inl (IR ⟨c,hc,hb⟩)⟩⟩) hSw92.IX, ?_⟩
     refine BQ 19 0 [0,0] [[o0,o0,o0,o0,o0],[o0,o0,o0,o0,o0,o0,o0,o0,o0,o0],[o0,o0]] [] [(1,i6 p),(Ja b42 o43 ot),(3,.int .u8 times),(4,pt z),(D9 dp8),(Ez mq27),(13,Ac kr),(14,i6 og),(15,Ac i),(16,i6 5),(109,.bool false)] rfl Ag ?_
     obtain⟨b94,o95,ha96,hF98,hc97⟩:=(hc.Aa).1.all (show 0<c.Aa.xs.length by omega)
     replace ha96:c.Aa.a=some ⟨b94,o95,none⟩:=ha96
     have hc99:=hc97 ((p).toNat) (show(p).toNat<c.Aa.xs.length by omega)
     have he100:=(hc.Aa).2 ((p).toNat) (show(p).toNat<c.Aa.xs.length by omega)
     obtain⟨y101,hy101⟩:∃ y_,y_=gd c.Aa.xs ((p).toNat):=⟨_,rfl⟩
     rw[←hy101]at he100 hc99
     have hyoy101:gd (Eb c c.Aa.xs.length) p.toNat=y101.AA:=by rw[hy101];exact Nz (by omega)
     refine A7 9 0 [0] [[o0,o0,o0,o0,(Jk 1 b94 o95 c.Aa),o0,(oi ((p).toNat)),o0,(oa [.via 0 (i6 y101.AA)]),oF,o0],[o0,(ov (i6 ((i+1:Nat):Int))),o0]] [Qb z,IQ b94 o95 c.Aa,(p:Int)=(((p).toNat:Nat):Int),(p).toNat<c.Aa.xs.length,Dt,Old w b94 (o95+((p).toNat)*8+5) (i6 y101.AA),BF ((i:Int)<y101.AA),Wr ((i:Int)+1) (((i+1:Nat):Int))] [(1,i6 p),(Ja b42 o43 ot),(3,.int .u8 times),(4,pt z),(D9 dp8),(Ez mq27),(13,Ac kr),(14,i6 og),(JQ i)] rfl ⟨rfl,IP ha96,(by omega),(by omega),rfl,Aq (hc99 5 _ rfl),bf,CU,Ag⟩ ?_
     refine Fj [1,2,3,4,9,11,13,14,15] [(1,i6 p),(Ef ot),(3,.int .u8 times),(4,pt z),(D9 dp8),(Ez mq27),(13,Ac kr),(14,i6 og),(JQ i)] (by(try dsimp only[LQ,LP,KY,Md,LK,Pq,Pg,Ja,Ez,JQ,Ef,D9]);simp only[ha44];rfl) ?_
     refine Cj (fun a w' hs=>⟨(times % 64).toNat - (i+1),by omega,w92.heap.size,(i+1),((Jv (Eb c c.Aa.xs.length) (Gf c c.Aa.xs.length) Wi y49).2.2),og,rfl,by omega,by omega,hD77,by omega,by omega,hs⟩)
    refine A7 8 3 [0] [[o0,o0,o0,oF,o0,o0],[o0,o0,o0]] [BF ((i:Int)<(ot.xs.length:Int))] [(1,i6 p),(Ef ot),(3,.int .u8 times),(4,pt z),(D9 dp8),(Ez mq27),(13,Ac kr),(14,i6 og),(15,Ac i),(92,pt dp8),(93,pt mq27),(94,i6 p)] rfl ⟨bf,Ag⟩ ?_
    refine l_call [] [] 12 #[pt dp8,pt mq27,i6 p] (some 95) Ag ?_
    intro w102 hw102
    by_cases hb103:gd Wi (gd (Gf c c.Aa.xs.length) p.toNat).toNat<gd (Eb c c.Aa.xs.length) p.toNat
    ·have hq105:=hw102.pick [4,5,6,7,8] rfl rfl
     have hgo:=JO w102 w w2.heap.size dp8 c.Frames c.Aa.xs.length (Eb c c.Aa.xs.length) (Gf c c.Aa.xs.length) ax10 cp11 ax12 cp13 (.map (some mp9)) w7.heap.size mq27 ax28 (c.Frames.toNat*16) cp29 Wi (by rw[hw102.size];exact hq105) _ rfl (by have:=hw102.size;simp only[]at this;omega) (by have:=hw102.size;simp only[]at this;omega) hDi p hp;rw[Qx hDi (by omega) (by omega) (by omega)]at hgo
     have hD106:=U0 (p:=p) hDi;rw[Qx hDi (by omega) (by omega) (by omega)]at hD106
     refine hgo.mono ?_
     rintro e w104 ⟨rfl,hSw104,hkw104⟩
     have hnw104:n39≤w104.heap.size:=EO hw102 hkw104
     refine⟨_,_,rfl,hw102.turn [0,1,2,3] [4,5,6,7,8] rfl rfl rfl (by decide) (fun c hc=>by simp only[List.mem_cons,List.not_mem_nil,or_false]at hc;rcases hc with rfl | rfl | rfl | rfl | rfl <;> rfl) hkw104 (fun c hc=>⟨hSw104.all c hc,hSw104.Jr c hc,fun b hb=>⟨hSw104.bnd c hc b hb,.inl (IR ⟨c,hc,hb⟩)⟩⟩) hSw104.IX, ?_⟩
     refine BQ 20 0 [0,1] [[o0,o0,o0,o0,o0],[o0,o0,o0,o0,o0,o0,o0,o0],[o0,o0],[o0,(ov (i6 (og+1))),o0]] [Wr ((og:Int)+1) (og+1)] [(1,i6 p),(Ef ot),(3,.int .u8 times),(4,pt z),(D9 dp8),(Ez mq27),(13,Ac kr),(14,i6 (og+1)),(15,Ac i),(16,i6 0)] rfl ⟨CU,Ag⟩ ?_
     obtain⟨b107,o108,ha109,hF111,hc110⟩:=(hc.Aa).1.all (show 0<c.Aa.xs.length by omega)
     replace ha109:c.Aa.a=some ⟨b107,o108,none⟩:=ha109
     have hc112:=hc110 ((p).toNat) (show(p).toNat<c.Aa.xs.length by omega)
     have he113:=(hc.Aa).2 ((p).toNat) (show(p).toNat<c.Aa.xs.length by omega)
     obtain⟨y114,hy114⟩:∃ y_,y_=gd c.Aa.xs ((p).toNat):=⟨_,rfl⟩
     rw[←hy114]at he113 hc112
     have hyoy114:gd (Eb c c.Aa.xs.length) p.toNat=y114.AA:=by rw[hy114];exact Nz (by omega)
     refine A7 9 0 [0] [[o0,o0,o0,o0,(Jk 1 b107 o108 c.Aa),o0,(oi ((p).toNat)),o0,(oa [.via 0 (i6 y114.AA)]),oT,o0],[o0,(ov (i6 ((i+1:Nat):Int))),o0]] [Qb z,IQ b107 o108 c.Aa,(p:Int)=(((p).toNat:Nat):Int),(p).toNat<c.Aa.xs.length,Dt,Old w b107 (o108+((p).toNat)*8+5) (i6 y114.AA),BT ((i:Int)<y114.AA),Wr ((i:Int)+1) (((i+1:Nat):Int))] [(1,i6 p),(Ef ot),(3,.int .u8 times),(4,pt z),(D9 dp8),(Ez mq27),(13,Ac kr),(14,i6 (og+1)),(JQ i)] rfl ⟨rfl,IP ha109,(by omega),(by omega),rfl,Aq (hc112 5 _ rfl),bt,CU,Ag⟩ ?_
     refine Cj (fun a w' hs=>⟨(times % 64).toNat - (i+1),by omega,w104.heap.size,(i+1),(Wi.set (gd (Gf c c.Aa.xs.length) p.toNat).toNat (gd Wi (gd (Gf c c.Aa.xs.length) p.toNat).toNat+1)),(og+1),rfl,by omega,by omega,hD106,by omega,(by rw[Ou (by have:=hDi.wl;omega)];omega),hs⟩)
    have hq116:=hw102.pick [4,5,6,7,8] rfl rfl
    have hgo:=JO w102 w w2.heap.size dp8 c.Frames c.Aa.xs.length (Eb c c.Aa.xs.length) (Gf c c.Aa.xs.length) ax10 cp11 ax12 cp13 (.map (some mp9)) w7.heap.size mq27 ax28 (c.Frames.toNat*16) cp29 Wi (by rw[hw102.size];exact hq116) _ rfl (by have:=hw102.size;simp only[]at this;omega) (by have:=hw102.size;simp only[]at this;omega) hDi p hp;rw[UM hDi (by omega) (by omega) (by omega)]at hgo
    refine hgo.mono ?_
    rintro e w115 ⟨rfl,hSw115,hkw115⟩
    have hnw115:n39≤w115.heap.size:=EO hw102 hkw115
    refine⟨_,_,rfl,hw102.turn [0,1,2,3] [4,5,6,7,8] rfl rfl rfl (by decide) (fun c hc=>by simp only[List.mem_cons,List.not_mem_nil,or_false]at hc;rcases hc with rfl | rfl | rfl | rfl | rfl <;> rfl) hkw115 (fun c hc=>⟨hSw115.all c hc,hSw115.Jr c hc,fun b hb=>⟨hSw115.bnd c hc b hb,.inl (IR ⟨c,hc,hb⟩)⟩⟩) hSw115.IX, ?_⟩
    refine BQ 19 0 [0,0] [[o0,o0,o0,o0,o0],[o0,o0,o0,o0,o0,o0,o0,o0,o0,o0],[o0,o0]] [] [(1,i6 p),(Ef ot),(3,.int .u8 times),(4,pt z),(D9 dp8),(Ez mq27),(13,Ac kr),(14,i6 og),(15,Ac i),(16,i6 5),(109,.bool false)] rfl Ag ?_
    obtain⟨b117,o118,ha119,hF121,hc120⟩:=(hc.Aa).1.all (show 0<c.Aa.xs.length by omega)
    replace ha119:c.Aa.a=some ⟨b117,o118,none⟩:=ha119
    have hc122:=hc120 ((p).toNat) (show(p).toNat<c.Aa.xs.length by omega)
    have he123:=(hc.Aa).2 ((p).toNat) (show(p).toNat<c.Aa.xs.length by omega)
    obtain⟨y124,hy124⟩:∃ y_,y_=gd c.Aa.xs ((p).toNat):=⟨_,rfl⟩
    rw[←hy124]at he123 hc122
    have hyoy124:gd (Eb c c.Aa.xs.length) p.toNat=y124.AA:=by rw[hy124];exact Nz (by omega)
    refine A7 9 0 [0] [[o0,o0,o0,o0,(Jk 1 b117 o118 c.Aa),o0,(oi ((p).toNat)),o0,(oa [.via 0 (i6 y124.AA)]),oF,o0],[o0,(ov (i6 ((i+1:Nat):Int))),o0]] [Qb z,IQ b117 o118 c.Aa,(p:Int)=(((p).toNat:Nat):Int),(p).toNat<c.Aa.xs.length,Dt,Old w b117 (o118+((p).toNat)*8+5) (i6 y124.AA),BF ((i:Int)<y124.AA),Wr ((i:Int)+1) (((i+1:Nat):Int))] [(1,i6 p),(Ef ot),(3,.int .u8 times),(4,pt z),(D9 dp8),(Ez mq27),(13,Ac kr),(14,i6 og),(JQ i)] rfl ⟨rfl,IP ha119,(by omega),(by omega),rfl,Aq (hc122 5 _ rfl),bf,CU,Ag⟩ ?_
    refine Cj (fun a w' hs=>⟨(times % 64).toNat - (i+1),by omega,w115.heap.size,(i+1),Wi,og,rfl,by omega,by omega,hDi,by omega,by omega,hs⟩)
   refine A7 10 0 [0] [[o0,o0,(ov (.int .u8 (times % 64))),(ov (i6 (times % 64))),oF]] [Value.int .u8 (Int.tmod (times) 64)=Value.int .u8 (times % 64),Wr (times % 64) (times % 64),BF ((i:Int)<(times % 64))] [(1,i6 p),(Ef ot),(3,.int .u8 times),(4,pt z),(D9 dp8),(Ez mq27),(13,Ac kr),(14,i6 og),(15,Ac i),(69,.bool false)] rfl ⟨congrArg (Value.int .u8) (XL (by omega) (by omega)),CU rfl,bf,Ag⟩ ?_
   obtain⟨b125,o126,ha127,hF129,hc128⟩:=(hc.Aa).1.all (show 0<c.Aa.xs.length by omega)
   replace ha127:c.Aa.a=some ⟨b125,o126,none⟩:=ha127
   have hc130:=hc128 ((p).toNat) (show(p).toNat<c.Aa.xs.length by omega)
   have he131:=(hc.Aa).2 ((p).toNat) (show(p).toNat<c.Aa.xs.length by omega)
   obtain⟨y132,hy132⟩:∃ y_,y_=gd c.Aa.xs ((p).toNat):=⟨_,rfl⟩
   rw[←hy132]at he131 hc130
   have hyoy132:gd (Eb c c.Aa.xs.length) p.toNat=y132.AA:=by rw[hy132];exact Nz (by omega)
   refine A7 9 0 [0] [[o0,o0,(Jk 1 b125 o126 c.Aa),o0,(oi ((p).toNat)),o0,(oa [.via 0 (i6 y132.AA)]),oF],[o0,(ov (i6 ((kr+1:Nat):Int))),o0]] [Qb z,IQ b125 o126 c.Aa,(p:Int)=(((p).toNat:Nat):Int),(p).toNat<c.Aa.xs.length,Dt,Old w b125 (o126+((p).toNat)*8+5) (i6 y132.AA),BF ((og:Int) > y132.AA),Wr ((kr:Int)+1) (((kr+1:Nat):Int))] [(1,i6 p),(Ef ot),(3,.int .u8 times),(4,pt z),(D9 dp8),(Ez mq27),(13,i6 ((kr+1:Nat):Int))] rfl ⟨rfl,IP ha127,(by omega),(by omega),rfl,Aq (hc130 5 _ rfl),bf,CU,Ag⟩ ?_
   refine Cc [0,1,4,5,6,2,7,8] [(Ak w),(KY c z),(LQ dp8 c ax10 cp11 ax12 cp13 mp9),(Md c ax10 cp11 w2),(LK c ax12 cp13 w2),(Ch.blk mp9 (.map #[] 0) true),(LP c mq27 ax28 cp29),(Pg c ax28 cp29 w7 Wi)] rfl rfl ?_
   refine BR [1,2,3,4,9,11,13] [(1,i6 p),(Ef ot),(3,.int .u8 times),(4,pt z),(D9 dp8),(Ez mq27),(13,i6 ((kr+1:Nat):Int))] ?_
   refine Cj (fun a w' hs=>⟨2 - (kr+1),by omega,n39,(kr+1),Wi,rfl,by omega,by omega,hDi,hs⟩)
  refine A7 11 0 [0] [[o0,oF]] [BF ((kr:Int)<2)] [(1,i6 p),(Ef ot),(3,.int .u8 times),(4,pt z),(D9 dp8),(Ez mq27),(13,Ac kr),(56,.bool false)] rfl ⟨bf,Ag⟩ ?_
  refine Bz 7 #[] (some 131) (.bool true) (fun w133 hw133=>OW w133 (hL.ext (hw133.ext rfl))) (fun n134 (hn135:n32≤n134) => ?_)
  refine BQ 3 0 [] [[o0]] [] [(8,.bool true)] rfl Ag ?_
  refine AX [] [] (.bool true) Ag ?_
  intro w136 hw136
  exact⟨rfl,BC hw136⟩
 refine A7 6 0 [1] [[o0,o0,o0,o0,o0,o0,o0,o0,oF,o0,o0,o0,o0,(a1 1),o0,oT,o0]] [BF ((p:Int)<0),Qb z,BT ((p:Int)≥(c.Aa.xs.length:Int))] [(1,i6 p),(Ef ot),(3,.int .u8 times),(4,pt z),(D9 dp8),(41,.bool true)] rfl ⟨bf,rfl,bt,Ag⟩ ?_
 refine Bz 7 #[] (some 42) (.bool true) (fun w137 hw137=>OW w137 (hL.ext (hw137.ext rfl))) (fun n138 (hn139:w7.heap.size≤n138) => ?_)
 refine BQ 3 0 [] [[o0]] [] [(8,.bool true)] rfl Ag ?_
 refine AX [] [] (.bool true) Ag ?_
 intro w140 hw140
 exact⟨rfl,BC hw140⟩
end Go.Proofs.YtjdmhijaanmccaaDoor.Dv
namespace Go.Proofs.YtjdmhijaanmccaaDoor.Row
open Go.ChangeShapes Go.WideShapes Go.ChangeAt Go.RowKit
set_option linter.unusedVariables false
section
variable {H:Type}{enc:TypeId×Value→H}{P:Program}
theorem Wv(hl:laidOutB P=true){W W':World}(hb:Below W.heap.size W W') :
   ∀ {ts:List TypeId} {vs:List Value} {ds:List (DataW H)} {ps:List MemPlace},
     ts.all (fun t=>P.readableRec t&&decide (t<P.types.size))=true→(∀ x∈ps,x.block<W.heap.size) →
     DataW.TrodAll enc P W 0 (fun _=>true) true ts vs ds ps→DataW.TrodAll enc P W' 0 (fun b=>decide (b<W.heap.size)) true ts vs ds ps:=by
 intro ts
 induction ts with
 | nil =>
   intro vs ds ps _ _ h
   obtain⟨rfl,rfl,rfl⟩:=trodAll_nil h
   exact trodAll_mk0
 | cons t ts ih =>
   intro vs ds ps ht hlt h
   obtain⟨v0,vs0,d0,ds0,p0,q0,rfl,rfl,rfl,h0,r0⟩:=trodAll_cons h
   simp only[List.all_cons,Bool.and_eq_true,decide_eq_true_eq]at ht
   refine trodAll_cons_mk (Below.trod hl ht.1.1 ht.1.2 h0 hb (fun x hx=>hlt x (by simp[hx]))) (ih ht.2 (fun x hx=>hlt x (by simp[hx])) r0)
theorem post_true(hl:laidOutB P=true){f:Func}{s:ChangeSpec}{tb:TypeId}{W W':World}{args:Array Value}{ds gs:List (DataW H)}{before:List MemPlace}
   (hts:f.params.toList.all (fun t=>P.readableRec t&&decide (t<P.types.size))=true) (hres:f.resultTypes = #[tb]) (hbool:P.underlying tb=some .bool)
   (hvars:s.vars=[]) (hfn:s.fn H (ds++gs)={ results:=[.lit (.bool true)],args:=ds })
   (hW:DataW.Whole enc P f.params.toList s.vars false W args.toList ds gs before) (bel:Below W.heap.size W W') :
   s.post enc P f false true false false W args (.bool true) W':=by
 have hW':=hW
 obtain⟨p,q,hA,hV,rfl,hfz,hnd⟩:=hW
 rw[hvars]at hV
 obtain⟨rfl,rfl⟩:=trodVars_none hV
 have hlt:∀ x∈p,x.block<W.heap.size:=fun x hx=>hW'.lt x (by simp[hx])
 refine⟨ds,[],_,[],p,[],hW', ?_, ?_, ?_,bel.frame _,fun h=>by cases h⟩
 · rw[hfn,hres];exact trodAll_mk1 (shut_bool hbool _)
 · rw[hfn];exact Wv hl bel hts hlt hA
 · rw[hfn,hvars];rfl
end
end Go.Proofs.YtjdmhijaanmccaaDoor.Row
