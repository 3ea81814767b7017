/- Packed: Ag, La, Lb, Lc, Ld, Le, Lf, Lg, Lh. No conditions. -/
import Derived.Test.YtjdmhijaanmccaaDoorPn2
import Derived.WalkKit
set_option maxHeartbeats 4000000
namespace Go.Proofs.YtjdmhijaanmccaaDoor.Ad
open Go Go.Proofs.YtjdmhijaanmccaaDoor.Eng Go.Proofs.YtjdmhijaanmccaaDoor.Mem Go.Proofs.YtjdmhijaanmccaaDoor.Ly
set_option linter.unusedSimpArgs false
set_option linter.unusedVariables false
set_option maxRecDepth 100000
def UM(c:Aj)(k n:Nat)(x:BA):List Am:=[Ae (win x.Partition (-1) ((c.Aa.xs.length:Nat) - 1)&&win x.BO 1 16384) 419 ⟨(k:Int),(n:Int)⟩,Ae (win x.AL 82 16384) 420 ⟨(k:Int),(n:Int)⟩,Ae (!JI c k x.Partition) 422 ⟨(k:Int),(n:Int)⟩]
def GI(c:Aj)(k n:Nat):Am:=Ba (UM c k n (gd (F9 c k).xs n))
def sumW(xs:List BA)(n:Nat):Int:=(List.range n).foldl (fun s i=>s+((gd xs i).BO+(gd xs i).AL)) 0
theorem ZaI(xs:List BA)(n:Nat):sumW xs (n+1)=sumW xs n+((gd xs n).BO+(gd xs n).AL):=by unfold sumW;rw[List.range_succ,List.foldl_append];rfl
theorem Xk{l:List Am}(h:Ba l=D9):∀ x∈l,x=D9:=by
 induction l with
 | nil=>intro x hx;cases hx
 | cons a r ih =>
  unfold Ba at h
  by_cases e:a=D9
  ·rw[if_pos e]at h
   intro x hx
   rcases List.mem_cons.1 hx with rfl | hx
   ·exact e
   exact ih h x hx
  rw[if_neg e]at h;exact absurd h e
theorem Ws{c:Aj}{k n:Nat}(h:GI c k n=D9):(1≤(gd (F9 c k).xs n).BO∧(gd (F9 c k).xs n).BO≤16384)∧(82≤(gd (F9 c k).xs n).AL∧(gd (F9 c k).xs n).AL≤16384):=by
 unfold GI UM at h
 have h1:=Xk h _ (List.mem_cons_self ..)
 have h2:=Xk h _ (List.mem_cons_of_mem _ (List.mem_cons_self ..))
 rw[TW (by decide)]at h1 h2
 rw[Bool.and_eq_true]at h1
 exact⟨H8 h1.2,H8 h2⟩
def Gq(c:Aj)(k:Nat):Am:=if win ((F9 c k).xs.length:Nat) 1 16=false then⟨418,⟨(k:Int), -1⟩⟩else if Fq D9 (GI c k) (F9 c k).xs.length=D9 then Ae (decide (sumW (F9 c k).xs (F9 c k).xs.length=c.Il)) 421 ⟨(k:Int), -1⟩else Fq D9 (GI c k) (F9 c k).xs.length
theorem TN{f:Nat→Am}:∀ {n:Nat},(∀ a,a<n→f a=D9)→Fq D9 f n=D9
 | 0,_=>Pz _ _
 | n+1,h=>(PD (TN (fun a ha=>h a (by omega)))).trans (h n (by omega))
theorem coreQ_a{c:Aj}{k:Nat}(h:¬ win ((F9 c k).xs.length:Nat) 1 16=true):Gq c k=⟨418,⟨(k:Int), -1⟩⟩:=if_pos (by simpa using h)
theorem coreQ_b{c:Aj}{k n:Nat}(h:win ((F9 c k).xs.length:Nat) 1 16=true)(hf:∀ a,a<n→GI c k a=D9)(hn:n<(F9 c k).xs.length)(hne:GI c k n≠D9):Gq c k=GI c k n:=by
 have h1:=PD (TN hf)
 have h2:=MJ (k:=n+1) (by rw[h1];exact hne) (show n+1≤(F9 c k).xs.length by omega)
 rw[h1]at h2
 unfold Gq
 rw[if_neg (by rw[h];simp),h2,if_neg hne]
theorem Zw{c:Aj}{k n:Nat}(h:win ((F9 c k).xs.length:Nat) 1 16=true)(hf:∀ a,a<n→GI c k a=D9)(hn:n=(F9 c k).xs.length):Gq c k=Ae (decide (sumW (F9 c k).xs n=c.Il)) 421 ⟨(k:Int), -1⟩:=by
 subst hn
 unfold Gq
 rw[if_neg (by rw[h];simp),if_pos (TN hf)]
section
variable (n46:Nat)(y24:BA)(k n:Nat)(b54 n43:Nat)(n85 b93:Nat)(n82 n125:Nat)(b133 n122:Nat)(n163 b171:Nat)(n160 b47:Nat)(b53 b32:Nat)(b86 b92:Nat)(b71 b126:Nat)(b132 b112:Nat)(b164 b170:Nat)(b150 z n15:Nat)(c:Aj)(b17 o18:Nat)(y8:Sl BA)
abbrev Wq:=bk n46 #[i6 ((Ae (win y24.BO 1 16384) 419 ⟨(k:Int),(n:Int)⟩).e),i6 ((Ae (win y24.BO 1 16384) 419 ⟨(k:Int),(n:Int)⟩).Ag.First),i6 ((Ae (win y24.BO 1 16384) 419 ⟨(k:Int),(n:Int)⟩).Ag.Second),i6 ((Ae (win y24.AL 82 16384) 420 ⟨(k:Int),(n:Int)⟩).e),i6 ((Ae (win y24.AL 82 16384) 420 ⟨(k:Int),(n:Int)⟩).Ag.First),i6 ((Ae (win y24.AL 82 16384) 420 ⟨(k:Int),(n:Int)⟩).Ag.Second),i6 ((Ae false 422 ⟨(k:Int),(n:Int)⟩).e),i6 ((Ae false 422 ⟨(k:Int),(n:Int)⟩).Ag.First),i6 ((Ae false 422 ⟨(k:Int),(n:Int)⟩).Ag.Second)] 111
abbrev VT:=bk b54 #[i6 ((Ae (win y24.BO 1 16384) 419 ⟨(k:Int),(n:Int)⟩).e),i6 ((Ae (win y24.BO 1 16384) 419 ⟨(k:Int),(n:Int)⟩).Ag.First),i6 ((Ae (win y24.BO 1 16384) 419 ⟨(k:Int),(n:Int)⟩).Ag.Second),i6 ((Ae (win y24.AL 82 16384) 420 ⟨(k:Int),(n:Int)⟩).e),i6 ((Ae (win y24.AL 82 16384) 420 ⟨(k:Int),(n:Int)⟩).Ag.First),i6 ((Ae (win y24.AL 82 16384) 420 ⟨(k:Int),(n:Int)⟩).Ag.Second),i6 ((Ae false 422 ⟨(k:Int),(n:Int)⟩).e),i6 ((Ae false 422 ⟨(k:Int),(n:Int)⟩).Ag.First),i6 ((Ae false 422 ⟨(k:Int),(n:Int)⟩).Ag.Second)] 111
abbrev U0:=bk n43 #[i6 ((Ae (win y24.BO 1 16384) 419 ⟨(k:Int),(n:Int)⟩).e),i6 ((Ae (win y24.BO 1 16384) 419 ⟨(k:Int),(n:Int)⟩).Ag.First),i6 ((Ae (win y24.BO 1 16384) 419 ⟨(k:Int),(n:Int)⟩).Ag.Second),i6 ((Ae (win y24.AL 82 16384) 420 ⟨(k:Int),(n:Int)⟩).e),i6 ((Ae (win y24.AL 82 16384) 420 ⟨(k:Int),(n:Int)⟩).Ag.First),i6 ((Ae (win y24.AL 82 16384) 420 ⟨(k:Int),(n:Int)⟩).Ag.Second),i6 ((Ae false 422 ⟨(k:Int),(n:Int)⟩).e),i6 ((Ae false 422 ⟨(k:Int),(n:Int)⟩).Ag.First),i6 ((Ae false 422 ⟨(k:Int),(n:Int)⟩).Ag.Second)] 111
abbrev WE:=bk n85 #[i6 ((Ae (win y24.BO 1 16384) 419 ⟨(k:Int),(n:Int)⟩).e),i6 ((Ae (win y24.BO 1 16384) 419 ⟨(k:Int),(n:Int)⟩).Ag.First),i6 ((Ae (win y24.BO 1 16384) 419 ⟨(k:Int),(n:Int)⟩).Ag.Second),i6 ((Ae (win y24.AL 82 16384) 420 ⟨(k:Int),(n:Int)⟩).e),i6 ((Ae (win y24.AL 82 16384) 420 ⟨(k:Int),(n:Int)⟩).Ag.First),i6 ((Ae (win y24.AL 82 16384) 420 ⟨(k:Int),(n:Int)⟩).Ag.Second),i6 ((Ae true 422 ⟨(k:Int),(n:Int)⟩).e),i6 ((Ae true 422 ⟨(k:Int),(n:Int)⟩).Ag.First),i6 ((Ae true 422 ⟨(k:Int),(n:Int)⟩).Ag.Second)] 111
abbrev WC:=bk b93 #[i6 ((Ae (win y24.BO 1 16384) 419 ⟨(k:Int),(n:Int)⟩).e),i6 ((Ae (win y24.BO 1 16384) 419 ⟨(k:Int),(n:Int)⟩).Ag.First),i6 ((Ae (win y24.BO 1 16384) 419 ⟨(k:Int),(n:Int)⟩).Ag.Second),i6 ((Ae (win y24.AL 82 16384) 420 ⟨(k:Int),(n:Int)⟩).e),i6 ((Ae (win y24.AL 82 16384) 420 ⟨(k:Int),(n:Int)⟩).Ag.First),i6 ((Ae (win y24.AL 82 16384) 420 ⟨(k:Int),(n:Int)⟩).Ag.Second),i6 ((Ae true 422 ⟨(k:Int),(n:Int)⟩).e),i6 ((Ae true 422 ⟨(k:Int),(n:Int)⟩).Ag.First),i6 ((Ae true 422 ⟨(k:Int),(n:Int)⟩).Ag.Second)] 111
abbrev Ux:=bk n82 #[i6 ((Ae (win y24.BO 1 16384) 419 ⟨(k:Int),(n:Int)⟩).e),i6 ((Ae (win y24.BO 1 16384) 419 ⟨(k:Int),(n:Int)⟩).Ag.First),i6 ((Ae (win y24.BO 1 16384) 419 ⟨(k:Int),(n:Int)⟩).Ag.Second),i6 ((Ae (win y24.AL 82 16384) 420 ⟨(k:Int),(n:Int)⟩).e),i6 ((Ae (win y24.AL 82 16384) 420 ⟨(k:Int),(n:Int)⟩).Ag.First),i6 ((Ae (win y24.AL 82 16384) 420 ⟨(k:Int),(n:Int)⟩).Ag.Second),i6 ((Ae true 422 ⟨(k:Int),(n:Int)⟩).e),i6 ((Ae true 422 ⟨(k:Int),(n:Int)⟩).Ag.First),i6 ((Ae true 422 ⟨(k:Int),(n:Int)⟩).Ag.Second)] 111
abbrev Wh:=bk n125 #[i6 ((Ae false 419 ⟨(k:Int),(n:Int)⟩).e),i6 ((Ae false 419 ⟨(k:Int),(n:Int)⟩).Ag.First),i6 ((Ae false 419 ⟨(k:Int),(n:Int)⟩).Ag.Second),i6 ((Ae (win y24.AL 82 16384) 420 ⟨(k:Int),(n:Int)⟩).e),i6 ((Ae (win y24.AL 82 16384) 420 ⟨(k:Int),(n:Int)⟩).Ag.First),i6 ((Ae (win y24.AL 82 16384) 420 ⟨(k:Int),(n:Int)⟩).Ag.Second),i6 ((Ae false 422 ⟨(k:Int),(n:Int)⟩).e),i6 ((Ae false 422 ⟨(k:Int),(n:Int)⟩).Ag.First),i6 ((Ae false 422 ⟨(k:Int),(n:Int)⟩).Ag.Second)] 111
abbrev W9:=bk b133 #[i6 ((Ae false 419 ⟨(k:Int),(n:Int)⟩).e),i6 ((Ae false 419 ⟨(k:Int),(n:Int)⟩).Ag.First),i6 ((Ae false 419 ⟨(k:Int),(n:Int)⟩).Ag.Second),i6 ((Ae (win y24.AL 82 16384) 420 ⟨(k:Int),(n:Int)⟩).e),i6 ((Ae (win y24.AL 82 16384) 420 ⟨(k:Int),(n:Int)⟩).Ag.First),i6 ((Ae (win y24.AL 82 16384) 420 ⟨(k:Int),(n:Int)⟩).Ag.Second),i6 ((Ae false 422 ⟨(k:Int),(n:Int)⟩).e),i6 ((Ae false 422 ⟨(k:Int),(n:Int)⟩).Ag.First),i6 ((Ae false 422 ⟨(k:Int),(n:Int)⟩).Ag.Second)] 111
abbrev Ui:=bk n122 #[i6 ((Ae false 419 ⟨(k:Int),(n:Int)⟩).e),i6 ((Ae false 419 ⟨(k:Int),(n:Int)⟩).Ag.First),i6 ((Ae false 419 ⟨(k:Int),(n:Int)⟩).Ag.Second),i6 ((Ae (win y24.AL 82 16384) 420 ⟨(k:Int),(n:Int)⟩).e),i6 ((Ae (win y24.AL 82 16384) 420 ⟨(k:Int),(n:Int)⟩).Ag.First),i6 ((Ae (win y24.AL 82 16384) 420 ⟨(k:Int),(n:Int)⟩).Ag.Second),i6 ((Ae false 422 ⟨(k:Int),(n:Int)⟩).e),i6 ((Ae false 422 ⟨(k:Int),(n:Int)⟩).Ag.First),i6 ((Ae false 422 ⟨(k:Int),(n:Int)⟩).Ag.Second)] 111
abbrev WI:=bk n163 #[i6 ((Ae false 419 ⟨(k:Int),(n:Int)⟩).e),i6 ((Ae false 419 ⟨(k:Int),(n:Int)⟩).Ag.First),i6 ((Ae false 419 ⟨(k:Int),(n:Int)⟩).Ag.Second),i6 ((Ae (win y24.AL 82 16384) 420 ⟨(k:Int),(n:Int)⟩).e),i6 ((Ae (win y24.AL 82 16384) 420 ⟨(k:Int),(n:Int)⟩).Ag.First),i6 ((Ae (win y24.AL 82 16384) 420 ⟨(k:Int),(n:Int)⟩).Ag.Second),i6 ((Ae true 422 ⟨(k:Int),(n:Int)⟩).e),i6 ((Ae true 422 ⟨(k:Int),(n:Int)⟩).Ag.First),i6 ((Ae true 422 ⟨(k:Int),(n:Int)⟩).Ag.Second)] 111
abbrev UT:=bk b171 #[i6 ((Ae false 419 ⟨(k:Int),(n:Int)⟩).e),i6 ((Ae false 419 ⟨(k:Int),(n:Int)⟩).Ag.First),i6 ((Ae false 419 ⟨(k:Int),(n:Int)⟩).Ag.Second),i6 ((Ae (win y24.AL 82 16384) 420 ⟨(k:Int),(n:Int)⟩).e),i6 ((Ae (win y24.AL 82 16384) 420 ⟨(k:Int),(n:Int)⟩).Ag.First),i6 ((Ae (win y24.AL 82 16384) 420 ⟨(k:Int),(n:Int)⟩).Ag.Second),i6 ((Ae true 422 ⟨(k:Int),(n:Int)⟩).e),i6 ((Ae true 422 ⟨(k:Int),(n:Int)⟩).Ag.First),i6 ((Ae true 422 ⟨(k:Int),(n:Int)⟩).Ag.Second)] 111
abbrev SV:=bk n160 #[i6 ((Ae false 419 ⟨(k:Int),(n:Int)⟩).e),i6 ((Ae false 419 ⟨(k:Int),(n:Int)⟩).Ag.First),i6 ((Ae false 419 ⟨(k:Int),(n:Int)⟩).Ag.Second),i6 ((Ae (win y24.AL 82 16384) 420 ⟨(k:Int),(n:Int)⟩).e),i6 ((Ae (win y24.AL 82 16384) 420 ⟨(k:Int),(n:Int)⟩).Ag.First),i6 ((Ae (win y24.AL 82 16384) 420 ⟨(k:Int),(n:Int)⟩).Ag.Second),i6 ((Ae true 422 ⟨(k:Int),(n:Int)⟩).e),i6 ((Ae true 422 ⟨(k:Int),(n:Int)⟩).Ag.First),i6 ((Ae true 422 ⟨(k:Int),(n:Int)⟩).Ag.Second)] 111
abbrev XE:Ch:= .blk b47 (.cells (Am.arr (Ba [(Ae (win y24.BO 1 16384) 419 ⟨(k:Int),(n:Int)⟩),(Ae (win y24.AL 82 16384) 420 ⟨(k:Int),(n:Int)⟩),(Ae false 422 ⟨(k:Int),(n:Int)⟩)])) 111 (0,0)) true
abbrev Xj:Ch:= .blk b53 (.cells (Am.arr (Ba [(Ae (win y24.BO 1 16384) 419 ⟨(k:Int),(n:Int)⟩),(Ae (win y24.AL 82 16384) 420 ⟨(k:Int),(n:Int)⟩),(Ae false 422 ⟨(k:Int),(n:Int)⟩)])) 111 (0,0)) true
abbrev Xo:Ch:= .blk b32 (.cells (Am.arr (Ba [(Ae (win y24.BO 1 16384) 419 ⟨(k:Int),(n:Int)⟩),(Ae (win y24.AL 82 16384) 420 ⟨(k:Int),(n:Int)⟩),(Ae false 422 ⟨(k:Int),(n:Int)⟩)])) 111 (0,0)) true
abbrev XN:Ch:= .blk b86 (.cells (Am.arr (Ba [(Ae (win y24.BO 1 16384) 419 ⟨(k:Int),(n:Int)⟩),(Ae (win y24.AL 82 16384) 420 ⟨(k:Int),(n:Int)⟩),(Ae true 422 ⟨(k:Int),(n:Int)⟩)])) 111 (0,0)) true
abbrev Xc:Ch:= .blk b92 (.cells (Am.arr (Ba [(Ae (win y24.BO 1 16384) 419 ⟨(k:Int),(n:Int)⟩),(Ae (win y24.AL 82 16384) 420 ⟨(k:Int),(n:Int)⟩),(Ae true 422 ⟨(k:Int),(n:Int)⟩)])) 111 (0,0)) true
abbrev Xy:Ch:= .blk b71 (.cells (Am.arr (Ba [(Ae (win y24.BO 1 16384) 419 ⟨(k:Int),(n:Int)⟩),(Ae (win y24.AL 82 16384) 420 ⟨(k:Int),(n:Int)⟩),(Ae true 422 ⟨(k:Int),(n:Int)⟩)])) 111 (0,0)) true
abbrev XP:Ch:= .blk b126 (.cells (Am.arr (Ba [(Ae false 419 ⟨(k:Int),(n:Int)⟩),(Ae (win y24.AL 82 16384) 420 ⟨(k:Int),(n:Int)⟩),(Ae false 422 ⟨(k:Int),(n:Int)⟩)])) 111 (0,0)) true
abbrev Xi:Ch:= .blk b132 (.cells (Am.arr (Ba [(Ae false 419 ⟨(k:Int),(n:Int)⟩),(Ae (win y24.AL 82 16384) 420 ⟨(k:Int),(n:Int)⟩),(Ae false 422 ⟨(k:Int),(n:Int)⟩)])) 111 (0,0)) true
abbrev WW:Ch:= .blk b112 (.cells (Am.arr (Ba [(Ae false 419 ⟨(k:Int),(n:Int)⟩),(Ae (win y24.AL 82 16384) 420 ⟨(k:Int),(n:Int)⟩),(Ae false 422 ⟨(k:Int),(n:Int)⟩)])) 111 (0,0)) true
abbrev X3:Ch:= .blk b164 (.cells (Am.arr (Ba [(Ae false 419 ⟨(k:Int),(n:Int)⟩),(Ae (win y24.AL 82 16384) 420 ⟨(k:Int),(n:Int)⟩),(Ae true 422 ⟨(k:Int),(n:Int)⟩)])) 111 (0,0)) true
abbrev X8:Ch:= .blk b170 (.cells (Am.arr (Ba [(Ae false 419 ⟨(k:Int),(n:Int)⟩),(Ae (win y24.AL 82 16384) 420 ⟨(k:Int),(n:Int)⟩),(Ae true 422 ⟨(k:Int),(n:Int)⟩)])) 111 (0,0)) true
abbrev XC:Ch:= .blk b150 (.cells (Am.arr (Ba [(Ae false 419 ⟨(k:Int),(n:Int)⟩),(Ae (win y24.AL 82 16384) 420 ⟨(k:Int),(n:Int)⟩),(Ae true 422 ⟨(k:Int),(n:Int)⟩)])) 111 (0,0)) true
abbrev BN:=bk (z+1) #[i6 0,i6 0,i6 0] 111
abbrev BQ:=bk n15 (BA.arr y24) 101
abbrev BJ:=bk z (Aj.arr c) 26
abbrev O9:Dc:=(65,.agg (Am.arr (Ba [(Ae (win y24.BO 1 16384) 419 ⟨(k:Int),(n:Int)⟩),(Ae (win y24.AL 82 16384) 420 ⟨(k:Int),(n:Int)⟩),(Ae false 422 ⟨(k:Int),(n:Int)⟩)])))
abbrev Ph:Dc:=(65,.agg (Am.arr (Ba [(Ae (win y24.BO 1 16384) 419 ⟨(k:Int),(n:Int)⟩),(Ae (win y24.AL 82 16384) 420 ⟨(k:Int),(n:Int)⟩),(Ae true 422 ⟨(k:Int),(n:Int)⟩)])))
abbrev O6:Dc:=(65,.agg (Am.arr (Ba [(Ae false 419 ⟨(k:Int),(n:Int)⟩),(Ae (win y24.AL 82 16384) 420 ⟨(k:Int),(n:Int)⟩),(Ae false 422 ⟨(k:Int),(n:Int)⟩)])))
abbrev OB:Dc:=(65,.agg (Am.arr (Ba [(Ae false 419 ⟨(k:Int),(n:Int)⟩),(Ae (win y24.AL 82 16384) 420 ⟨(k:Int),(n:Int)⟩),(Ae true 422 ⟨(k:Int),(n:Int)⟩)])))
abbrev OM:Dc:=(46,.agg (Am.arr (Ae (win y24.BO 1 16384) 419 ⟨(k:Int),(n:Int)⟩)))
abbrev Jz:Dc:=(53,.agg (Am.arr (Ae (win y24.AL 82 16384) 420 ⟨(k:Int),(n:Int)⟩)))
abbrev N7:Dc:=(63,.agg (Am.arr (Ae false 422 ⟨(k:Int),(n:Int)⟩)))
abbrev OX:Dc:=(46,.agg (Am.arr (Ae false 419 ⟨(k:Int),(n:Int)⟩)))
abbrev OI:Dc:=(63,.agg (Am.arr (Ae true 422 ⟨(k:Int),(n:Int)⟩)))
abbrev OU:=(36,i6 ((c.Aa.xs.length:Int) - 1))
abbrev BB:Dc:=(24,.slice (some ⟨b17,o18,none⟩) y8.xs.length y8.cap)
abbrev Bg:=(25,Ac y8.xs.length)
abbrev AZ:=(4,pt (z+1))
abbrev Kw:Dc:=(24,.slice y8.a y8.xs.length y8.cap)
abbrev Bq:=(5,i6 (sumW (F9 c k).xs n))
abbrev BG:=(7,pt n15)
end
theorem Zaj(w:World)(hL:Iq w)(c:Aj)(hc:Aj.ok Any w c)(k:Nat)(hk:k<c.Dk.xs.length):Calls Tryd.prog 73 #[.agg (Aj.arr c),.int .i64 (k:Int)] w fun e w'=>e = .returned (.agg (Am.arr (Gq c k)))∧CZ (fun _=>False) w w':=by
 obtain⟨z,hz⟩:∃ z,z=w.heap.size:=⟨_,rfl⟩
 refine Cb (args:=[.agg (Aj.arr c),Ac k]) 85 ⟨w,z,[(Ak w)]⟩ Tryd.func73 rfl (by kernel_rfl) (by kernel_rfl) (ES hz) ?_
 have hpl:=hc.Dk.1.len;have hpp:=hc.Aa.1.len
 refine Ee [0,1] [(0,.agg (Aj.arr c)),(1,Ac k)] ?_
 refine q_c 6 0 [] [[o0,o0]] [] [(1,Ac k),(2,pt z),(AZ z)] ⟨w,z+2,[(Ak w),(BJ z c),(BN z)]⟩ rfl Af ?_
 obtain⟨b1,o2,ha3,hF5,hc4⟩:=(hc.Dk).1.all (show 0<c.Dk.xs.length by omega)
 replace ha3:c.Dk.a=some ⟨b1,o2,none⟩:=ha3
 have hc6:=hc4 k (show k<c.Dk.xs.length by omega)
 have he7:=(hc.Dk).2 k (show k<c.Dk.xs.length by omega)
 obtain⟨y8,hy8⟩:∃ y_,y_=gd c.Dk.xs k:=⟨_,rfl⟩
 rw[←hy8]at he7 hc6
 have hyly8:=he7.1.len
 refine Az 1 6 [] [[o0,(Gy 1 b1 o2 c.Dk),o0,(oi k),(oa [.via 0 (.slice y8.a y8.xs.length y8.cap)]),o0]] [Qb z,FO b1 o2 c.Dk,DJ k,k<c.Dk.xs.length,Di,Old w b1 (o2+k) (.slice y8.a y8.xs.length y8.cap)] [(1,Ac k),(2,pt z),(AZ z),(14,Ac y8.xs.length)] rfl ⟨rfl,FP ha3,rfl,(by omega),rfl,Aw (hc6 0 _ rfl),Af⟩ ?_
 refine BI 63 #[(Ac y8.xs.length),i6 1,i6 16] (some 15) (.bool (win (y8.xs.length:Int) 1 16)) (fun w9 hw9=>BL w9 (y8.xs.length:Int) 1 16) (fun n10 (hn11:z+2≤n10) => ?_)
 refine DZ [1,2,4,15] [(1,Ac k),(2,pt z),(AZ z),(15,.bool (win (y8.xs.length:Int) 1 16))] ?_
 by_cases h12:(win (y8.xs.length:Int) 1 16)=true
 ·have hd13:=H8 h12
  refine Cc 15 0 [0] [[(ov (.bool false))],[o0],[o0,(Gy 1 b1 o2 c.Dk),o0,(oi k),(oa [.via 0 (.slice y8.a y8.xs.length y8.cap)]),o0,o0]] [Value.bool (!(win (y8.xs.length:Int) 1 16))=Value.bool false,Qb z,FO b1 o2 c.Dk,DJ k,k<c.Dk.xs.length,Di,Old w b1 (o2+k) (.slice y8.a y8.xs.length y8.cap)] [(1,Ac k),(2,pt z),(AZ z),(5,i6 0),(Kw y8),(Bg y8),(26,i6 0)] rfl ⟨by simp[h12],rfl,FP ha3,rfl,(by omega),rfl,Aw (hc6 0 _ rfl),Af⟩ ?_
  refine DY (fun m a w'=>∃ (n15:Nat) (n:Nat),m=y8.xs.length - n∧n10≤n15∧(n≤y8.xs.length)∧(∀ a,a<n→GI c k a=D9)∧(0≤sumW (F9 c k).xs n∧sumW (F9 c k).xs n≤n*32768)∧St 85 [(1,Ac k),(2,pt z),(AZ z),(Bq k n c),(Kw y8),(Bg y8),(26,Ac n)] [] ⟨w,n15,[(Ak w),(BJ z c),(BN z)]⟩ a w') (y8.xs.length - 0) ?_ ?_
  ·intro a w' hs;exact⟨n10,0,rfl,Nat.le_refl _,Nat.zero_le _,fun i hi=>absurd hi (Nat.not_lt_zero i),by simp[sumW],hs⟩
  rintro m a w' ⟨n15,n,rfl,hn14,hkn,hf,hsu,hs⟩
  refine(?_:G Tryd.prog 85 [(1,Ac k),(2,pt z),(AZ z),(Bq k n c),(Kw y8),(Bg y8),(26,Ac n)] [] ⟨w,n15,[(Ak w),(BJ z c),(BN z)]⟩ _ _ _) a w' hs
  clear hs a w'
  refine DW ?_
  by_cases h16:(n:Int)<(y8.xs.length:Int)
  ·refine Az 10 0 [1] [[oT]] [BT ((n:Int)<(y8.xs.length:Int))] [(1,Ac k),(2,pt z),(AZ z),(Bq k n c),(Kw y8),(Bg y8),(26,Ac n),(27,.bool true)] rfl ⟨bt,Af⟩ ?_
   obtain⟨b17,o18,ha19,hF21,hc20⟩:=(he7).1.all (show 0<y8.xs.length by omega)
   replace ha19:y8.a=some ⟨b17,o18,none⟩:=ha19
   refine Ku [(1,Ac k),(2,pt z),(AZ z),(Bq k n c),(BB b17 o18 y8),(Bg y8),(26,Ac n),(27,.bool true)] (by(try dsimp only[BN,BJ,BB,Bg,AZ,Kw,Bq]);simp only[ha19]) ?_
   have hc22:=hc20 n (show n<y8.xs.length by omega)
   have he23:=(he7).2 n (show n<y8.xs.length by omega)
   obtain⟨y24,hy24⟩:∃ y_,y_=gd y8.xs n:=⟨_,rfl⟩
   rw[←hy24]at he23 hc22
   refine q_c 3 0 [] [[o0,(oi n),(ol 0 (BA.arr y24)),o0,o0,(an 3 3)]] [DJ n,n<y8.xs.length,Di,He w b17 (o18+n*3) (BA.arr y24),Qb n15,Qb n15,Qb n15] [(1,Ac k),(2,pt z),(AZ z),(Bq k n c),(BB b17 o18 y8),(Bg y8),(26,Ac n),(BG n15),(6,Ac n)] ⟨w,n15+1,[(Ak w),(BJ z c),(BN z),(BQ y24 n15)]⟩ rfl ⟨rfl,(by omega),rfl,EH hc22,rfl,rfl,rfl,Af⟩ ?_
   refine Uc (fun a w'=>∃ (n25:Nat) (b8:Nat),n15+1≤n25∧St 85 [(1,Ac k),(2,pt z),(AZ z),(Bq k n c),(BG n15),(8,pt b8),(BB b17 o18 y8),(Bg y8),(26,Ac n)] [] ⟨w,n25,[(Ak w),(BJ z c),(BN z),(BQ y24 n15),(bk b8 (Am.arr (GI c k n)) 111)]⟩ a w') ?_ ?_
   ·by_cases h27:(win y24.Partition (-1) ((c.Aa.xs.length:Int) - 1))=true
    ·have hd28:=H8 h27
     by_cases h29:(JI c k y24.Partition)=true
     ·refine Eo 36 [0,1,2,3] [(Ak w),(BJ z c),(BN z),(BQ y24 n15)] rfl rfl ?_
      refine D6 [(0,o0),(1,(a1 3)),(2,o0),(3,(a1 1)),(4,o0),(5,(ov (i6 ((c.Aa.xs.length:Int) - 1)))),(12,o0),(13,o0),(16,o0),(17,(a1 3)),(19,o0),(20,o0),(23,(an 7 1)),(24,o0),(25,o0),(26,(a1 3)),(29,o0),(30,o0)] [1,2,4,5,24,25,26,7,32,36,43,44,48,50,51,54,55,57,60,61] [Qb n15,Qb z,Wr ((c.Aa.xs.length:Int) - 1) ((c.Aa.xs.length:Int) - 1),Qb n15,Qb z,Qb z,Qb z,Qb z,Qb z,Qb z,Qb z,Qb n15] [true,true,true,true,true,true,false,false,false,false,false,false,true,true,false,false,true,true,false,true,true,false,false,true,true,true,true,false,false,true,true,false,false,false,false,false,false] [(1,Ac k),(2,pt z),(AZ z),(Bq k n c),(BB b17 o18 y8),(Bg y8),(26,Ac n),(BG n15),(32,i6 y24.Partition),(OU c),(43,Ac k),(44,Ac n),(48,i6 y24.AL),(50,Ac k),(51,Ac n),(54,.agg (Aj.arr c)),(55,Ac k),(57,i6 y24.Partition),(60,Ac k),(61,Ac n)] ⟨rfl,rfl,CB,rfl,rfl,rfl,rfl,rfl,rfl,rfl,rfl,rfl,Af⟩ ?_
      refine Oq (fun x:{p:Nat×Nat×Nat // n15+1≤p.1∧n15+1≤p.2.1∧n15+1≤p.2.2}=>([(1,Ac k),(2,pt z),(AZ z),(Bq k n c),(BB b17 o18 y8),(Bg y8),(26,Ac n),(BG n15),(8,pt x.1.2.2)],⟨w,x.1.1,[(Ak w),(BJ z c),(BN z),(BQ y24 n15),(.blk x.1.2.1 (.cells #[i6 ((Ae (win y24.BO 1 16384) 419 ⟨(k:Int),(n:Int)⟩).e),i6 ((Ae (win y24.BO 1 16384) 419 ⟨(k:Int),(n:Int)⟩).Ag.First),i6 ((Ae (win y24.BO 1 16384) 419 ⟨(k:Int),(n:Int)⟩).Ag.Second),i6 ((Ae (win y24.AL 82 16384) 420 ⟨(k:Int),(n:Int)⟩).e),i6 ((Ae (win y24.AL 82 16384) 420 ⟨(k:Int),(n:Int)⟩).Ag.First),i6 ((Ae (win y24.AL 82 16384) 420 ⟨(k:Int),(n:Int)⟩).Ag.Second),i6 ((Ae false 422 ⟨(k:Int),(n:Int)⟩).e),i6 ((Ae false 422 ⟨(k:Int),(n:Int)⟩).Ag.First),i6 ((Ae false 422 ⟨(k:Int),(n:Int)⟩).Ag.Second)] 111 (0,0)) true),(.blk x.1.2.2 (.cells (Am.arr (Ba [(Ae (win y24.BO 1 16384) 419 ⟨(k:Int),(n:Int)⟩),(Ae (win y24.AL 82 16384) 420 ⟨(k:Int),(n:Int)⟩),(Ae false 422 ⟨(k:Int),(n:Int)⟩)])) 111 (0,0)) true)]⟩)) (fun hK => ?_) ?_
      ·refine NR 35 8 [.cl 6 (.bool (win y24.Partition (-1) ((c.Aa.xs.length:Int) - 1))),.tk 7 (ov (.bool true)),.tk 8 o0,.tk 9 (a1 3),.cl 10 (.bool (win y24.BO 1 16384)),.tk 11 o0,.cl 14 (.agg #[(Ac k),Ac n]),.cl 15 (.agg (Am.arr (Ae (win y24.BO 1 16384) 419 ⟨(k:Int),(n:Int)⟩))),.cl 18 (.bool (win y24.AL 82 16384)),.cl 21 (.agg #[(Ac k),Ac n]),.cl 22 (.agg (Am.arr (Ae (win y24.AL 82 16384) 420 ⟨(k:Int),(n:Int)⟩))),.cl 27 (.bool (JI c k y24.Partition)),.tk 28 (ov (.bool false)),.cl 31 (.agg #[(Ac k),Ac n]),.cl 32 (.agg (Am.arr (Ae false 422 ⟨(k:Int),(n:Int)⟩)))] [1,2,4,5,24,25,26,7,46,53,63] [(63,#[i6 y24.Partition,i6 (-1),i6 ((c.Aa.xs.length:Int) - 1)],.bool (win y24.Partition (-1) ((c.Aa.xs.length:Int) - 1))),(63,#[i6 y24.BO,i6 1,i6 16384],.bool (win y24.BO 1 16384)),(96,#[(Ac k),Ac n],.agg #[(Ac k),Ac n]),(62,#[.bool (win y24.BO 1 16384),i6 419,.agg #[(Ac k),Ac n]],.agg (Am.arr (Ae (win y24.BO 1 16384) 419 ⟨(k:Int),(n:Int)⟩))),(63,#[i6 y24.AL,i6 82,i6 16384],.bool (win y24.AL 82 16384)),(96,#[(Ac k),Ac n],.agg #[(Ac k),Ac n]),(62,#[.bool (win y24.AL 82 16384),i6 420,.agg #[(Ac k),Ac n]],.agg (Am.arr (Ae (win y24.AL 82 16384) 420 ⟨(k:Int),(n:Int)⟩))),(98,#[.agg (Aj.arr c),Ac k,i6 y24.Partition],.bool (JI c k y24.Partition)),(96,#[(Ac k),Ac n],.agg #[(Ac k),Ac n]),(62,#[.bool false,i6 422,.agg #[(Ac k),Ac n]],.agg (Am.arr (Ae false 422 ⟨(k:Int),(n:Int)⟩)))] (DC 33 4) [Value.bool (win y24.Partition (-1) ((c.Aa.xs.length:Int) - 1))=Value.bool true,Qb n15,Value.bool (!(JI c k y24.Partition))=Value.bool false] [(1,Ac k),(2,pt z),(AZ z),(Bq k n c),(BB b17 o18 y8),(Bg y8),(26,Ac n),(BG n15),(OM y24 k n),(Jz y24 k n),(N7 k n)] (.cells #[i6 0,i6 0,i6 0] 111 (0,0)) [0,1,2,3] ⟨(congrArg Value.bool h27),rfl,by simp[h29],Af⟩ ⟨fun w33 hw33=>BL w33 y24.Partition (-1) ((c.Aa.xs.length:Int) - 1),fun w34 hw34=>BL w34 y24.BO 1 16384,fun w35 hw35=>F5 w35 (k:Int) (n:Int),fun w36 hw36=>AY w36 (hL.ext (hw36.ext rfl)) (win y24.BO 1 16384) 419 (k:Int) (n:Int),fun w37 hw37=>BL w37 y24.AL 82 16384,fun w38 hw38=>F5 w38 (k:Int) (n:Int),fun w39 hw39=>AY w39 (hL.ext (hw39.ext rfl)) (win y24.AL 82 16384) 420 (k:Int) (n:Int),fun w40 hw40=>Qj w40 c (hc.ext (hw40.ext rfl) (fun _ h=>h)) k hk y24.Partition,fun w41 hw41=>F5 w41 (k:Int) (n:Int),fun w42 hw42=>AY w42 (hL.ext (hw42.ext rfl)) false 422 (k:Int) (n:Int),Af⟩ ?_ (fun hv45 n43 hn44 => ?_)
       ·rintro⟨⟨n46,b47⟩,hb48⟩
        simp only at hb48
        refine Bv 33 ?_
        refine BC o0 [8,1,2,4,5,24,25,26,7,64] [] [(8,pt b47),(1,Ac k),(2,pt z),(AZ z),(Bq k n c),(BB b17 o18 y8),(Bg y8),(26,Ac n),(BG n15),(64,.slice (some ⟨n46,0,none⟩) 3 3)] ⟨w,n46+1,[(Ak w),(BJ z c),(BN z),(BQ y24 n15),(bk b47 #[i6 0,i6 0,i6 0] 111),(Wq n46 y24 k n)]⟩ [0,1,2,3] Af (.inr rfl) ?_
        refine Bv 34 ?_
        refine FM 91 #[.slice (some ⟨n46,0,none⟩) 3 3] (some 65) (.agg (Am.arr (Ba [(Ae (win y24.BO 1 16384) 419 ⟨(k:Int),(n:Int)⟩),(Ae (win y24.AL 82 16384) 420 ⟨(k:Int),(n:Int)⟩),(Ae false 422 ⟨(k:Int),(n:Int)⟩)]))) [8,1,2,4,5,24,25,26,7,65] [(8,pt b47),(1,Ac k),(2,pt z),(AZ z),(Bq k n c),(BB b17 o18 y8),(Bg y8),(26,Ac n),(BG n15),(O9 y24 k n)] [0,1,2,3] (fun w49 hw49=>Dp w49 (hL.ext (hw49.ext rfl)) ⟨some ⟨n46,0,none⟩,3,[(Ae (win y24.BO 1 16384) 419 ⟨(k:Int),(n:Int)⟩),(Ae (win y24.AL 82 16384) 420 ⟨(k:Int),(n:Int)⟩),(Ae false 422 ⟨(k:Int),(n:Int)⟩)]⟩ (Eb hw49 (i:=5) [(Ae (win y24.BO 1 16384) 419 ⟨(k:Int),(n:Int)⟩),(Ae (win y24.AL 82 16384) 420 ⟨(k:Int),(n:Int)⟩),(Ae false 422 ⟨(k:Int),(n:Int)⟩)]) (show 3≤1000 by decide)) (fun n50 hn51 => ?_)
        replace hn51:n46+1≤n50:=hn51
        refine Bv 36 ?_
        refine BC (an 3 4) [8,1,2,4,5,24,25,26,7] [Qb b47,Qb b47,Qb b47] [(8,pt b47),(1,Ac k),(2,pt z),(AZ z),(Bq k n c),(BB b17 o18 y8),(Bg y8),(26,Ac n),(BG n15)] ⟨w,n50,[(Ak w),(BJ z c),(BN z),(BQ y24 n15),(XE y24 k n b47),(Wq n46 y24 k n)]⟩ [] ⟨rfl,rfl,rfl,Af⟩ (.inl rfl) ?_
        refine DV 37 [0,1,2,3,4,5] [(Ak w),(BJ z c),(BN z),(BQ y24 n15),(XE y24 k n b47),(Wq n46 y24 k n)] rfl rfl ?_
        refine Dl ?_
        refine BR [1,2,4,5,24,25,26,7,8] [(1,Ac k),(2,pt z),(AZ z),(Bq k n c),(BB b17 o18 y8),(Bg y8),(26,Ac n),(BG n15),(8,pt b47)] ?_
        refine BX [0,1,2,3,5,4] [(Ak w),(BJ z c),(BN z),(BQ y24 n15),(Wq n46 y24 k n),(XE y24 k n b47)] rfl rfl ?_
        exact hK ⟨(n50,n46,b47),by first | omega | (dsimp only;omega)⟩
       replace hn44:n15+1≤n43:=hn44
       refine LM (fun x:{p:Nat×Nat×Nat // n43≤p.1∧n43≤p.2.1∧n43≤p.2.2}=>[(1,Ac k),(2,pt z),(AZ z),(Bq k n c),(BB b17 o18 y8),(Bg y8),(26,Ac n),(BG n15),(8,pt x.1.2.1),(O9 y24 k n)]) (fun x=>⟨w,x.1.1,[(Ak w),(BJ z c),(BN z),(BQ y24 n15),(.blk x.1.2.1 (.cells #[i6 0,i6 0,i6 0] 111 (0,0)) true),(.blk x.1.2.2 (.cells #[i6 ((Ae (win y24.BO 1 16384) 419 ⟨(k:Int),(n:Int)⟩).e),i6 ((Ae (win y24.BO 1 16384) 419 ⟨(k:Int),(n:Int)⟩).Ag.First),i6 ((Ae (win y24.BO 1 16384) 419 ⟨(k:Int),(n:Int)⟩).Ag.Second),i6 ((Ae (win y24.AL 82 16384) 420 ⟨(k:Int),(n:Int)⟩).e),i6 ((Ae (win y24.AL 82 16384) 420 ⟨(k:Int),(n:Int)⟩).Ag.First),i6 ((Ae (win y24.AL 82 16384) 420 ⟨(k:Int),(n:Int)⟩).Ag.Second),i6 ((Ae false 422 ⟨(k:Int),(n:Int)⟩).e),i6 ((Ae false 422 ⟨(k:Int),(n:Int)⟩).Ag.First),i6 ((Ae false 422 ⟨(k:Int),(n:Int)⟩).Ag.Second)] 111 (0,0)) true)]⟩) 1 (DC 36 1) ?_ (fun hv55 => ?_)
       ·rintro⟨⟨n52,b53,b54⟩,hb56⟩
        simp only at hb56
        show Wg _ _ [(1,Ac k),(2,pt z),(AZ z),(Bq k n c),(BB b17 o18 y8),(Bg y8),(26,Ac n),(BG n15),(8,pt b53),(O9 y24 k n)] _ ⟨w,n52,[(Ak w),(BJ z c),(BN z),(BQ y24 n15),(bk b53 #[i6 0,i6 0,i6 0] 111),(VT y24 k n b54)]⟩ _ _ _ _ _ _ _
        refine Bv 36 ?_
        refine BC (an 3 4) [1,2,4,5,24,25,26,7,8] [Qb b53,Qb b53,Qb b53] [(1,Ac k),(2,pt z),(AZ z),(Bq k n c),(BB b17 o18 y8),(Bg y8),(26,Ac n),(BG n15),(8,pt b53)] ⟨w,n52,[(Ak w),(BJ z c),(BN z),(BQ y24 n15),(Xj y24 k n b53),(VT y24 k n b54)]⟩ [] ⟨rfl,rfl,rfl,Af⟩ (.inl rfl) ?_
        refine DV 37 [0,1,2,3,4,5] [(Ak w),(BJ z c),(BN z),(BQ y24 n15),(Xj y24 k n b53),(VT y24 k n b54)] rfl rfl ?_
        refine Dl ?_
        refine BR [1,2,4,5,24,25,26,7,8] [(1,Ac k),(2,pt z),(AZ z),(Bq k n c),(BB b17 o18 y8),(Bg y8),(26,Ac n),(BG n15),(8,pt b53)] ?_
        refine BX [0,1,2,3,5,4] [(Ak w),(BJ z c),(BN z),(BQ y24 n15),(VT y24 k n b54),(Xj y24 k n b53)] rfl rfl ?_
        exact hK ⟨(n52,b54,b53),by first | omega | (dsimp only;omega)⟩
       refine LM (fun x:{p:Nat×Nat×Nat // n43≤p.1∧n43≤p.2.1∧n43≤p.2.2}=>[(1,Ac k),(2,pt z),(AZ z),(Bq k n c),(BB b17 o18 y8),(Bg y8),(26,Ac n),(BG n15),(8,pt x.1.2.1),(64,.slice (some ⟨x.1.2.2,0,none⟩) 3 3)]) (fun x=>⟨w,x.1.1,[(Ak w),(BJ z c),(BN z),(BQ y24 n15),(.blk x.1.2.1 (.cells #[i6 0,i6 0,i6 0] 111 (0,0)) true),(.blk x.1.2.2 (.cells #[i6 ((Ae (win y24.BO 1 16384) 419 ⟨(k:Int),(n:Int)⟩).e),i6 ((Ae (win y24.BO 1 16384) 419 ⟨(k:Int),(n:Int)⟩).Ag.First),i6 ((Ae (win y24.BO 1 16384) 419 ⟨(k:Int),(n:Int)⟩).Ag.Second),i6 ((Ae (win y24.AL 82 16384) 420 ⟨(k:Int),(n:Int)⟩).e),i6 ((Ae (win y24.AL 82 16384) 420 ⟨(k:Int),(n:Int)⟩).Ag.First),i6 ((Ae (win y24.AL 82 16384) 420 ⟨(k:Int),(n:Int)⟩).Ag.Second),i6 ((Ae false 422 ⟨(k:Int),(n:Int)⟩).e),i6 ((Ae false 422 ⟨(k:Int),(n:Int)⟩).Ag.First),i6 ((Ae false 422 ⟨(k:Int),(n:Int)⟩).Ag.Second)] 111 (0,0)) true)]⟩) 2 [true,true,true,true,true,true,true,true,true,true,true,true,true,true,true,true,true,true,true,true,true,true,true,true,true,true,true,true,true,true,true,true,true,true,false,true,false] ?_ (fun hv60 => ?_)
       ·rintro⟨⟨n57,b58,b59⟩,hb61⟩
        simp only at hb61
        show Wg _ _ [(1,Ac k),(2,pt z),(AZ z),(Bq k n c),(BB b17 o18 y8),(Bg y8),(26,Ac n),(BG n15),(8,pt b58),(64,.slice (some ⟨b59,0,none⟩) 3 3)] _ ⟨w,n57,[(Ak w),(BJ z c),(BN z),(BQ y24 n15),(bk b58 #[i6 0,i6 0,i6 0] 111),(bk b59 #[i6 ((Ae (win y24.BO 1 16384) 419 ⟨(k:Int),(n:Int)⟩).e),i6 ((Ae (win y24.BO 1 16384) 419 ⟨(k:Int),(n:Int)⟩).Ag.First),i6 ((Ae (win y24.BO 1 16384) 419 ⟨(k:Int),(n:Int)⟩).Ag.Second),i6 ((Ae (win y24.AL 82 16384) 420 ⟨(k:Int),(n:Int)⟩).e),i6 ((Ae (win y24.AL 82 16384) 420 ⟨(k:Int),(n:Int)⟩).Ag.First),i6 ((Ae (win y24.AL 82 16384) 420 ⟨(k:Int),(n:Int)⟩).Ag.Second),i6 ((Ae false 422 ⟨(k:Int),(n:Int)⟩).e),i6 ((Ae false 422 ⟨(k:Int),(n:Int)⟩).Ag.First),i6 ((Ae false 422 ⟨(k:Int),(n:Int)⟩).Ag.Second)] 111)]⟩ _ _ _ _ _ _ _
        refine Bv 34 ?_
        refine FM 91 #[.slice (some ⟨b59,0,none⟩) 3 3] (some 65) (.agg (Am.arr (Ba [(Ae (win y24.BO 1 16384) 419 ⟨(k:Int),(n:Int)⟩),(Ae (win y24.AL 82 16384) 420 ⟨(k:Int),(n:Int)⟩),(Ae false 422 ⟨(k:Int),(n:Int)⟩)]))) [1,2,4,5,24,25,26,7,8,65] [(1,Ac k),(2,pt z),(AZ z),(Bq k n c),(BB b17 o18 y8),(Bg y8),(26,Ac n),(BG n15),(8,pt b58),(O9 y24 k n)] [0,1,2,3] (fun w62 hw62=>Dp w62 (hL.ext (hw62.ext rfl)) ⟨some ⟨b59,0,none⟩,3,[(Ae (win y24.BO 1 16384) 419 ⟨(k:Int),(n:Int)⟩),(Ae (win y24.AL 82 16384) 420 ⟨(k:Int),(n:Int)⟩),(Ae false 422 ⟨(k:Int),(n:Int)⟩)]⟩ (Eb hw62 (i:=5) [(Ae (win y24.BO 1 16384) 419 ⟨(k:Int),(n:Int)⟩),(Ae (win y24.AL 82 16384) 420 ⟨(k:Int),(n:Int)⟩),(Ae false 422 ⟨(k:Int),(n:Int)⟩)]) (show 3≤1000 by decide)) (fun n63 hn64 => ?_)
        replace hn64:n57≤n63:=hn64
        refine Dt [1,2,4,5,24,25,26,7,8,65] [(1,Ac k),(2,pt z),(AZ z),(Bq k n c),(BB b17 o18 y8),(Bg y8),(26,Ac n),(BG n15),(8,pt b58),(O9 y24 k n)] ?_
        exact hv55 ⟨(n63,b58,b59),by first | omega | (dsimp only;omega)⟩
       refine Io [33,35] ?_
       refine List.forall_mem_cons.2 ⟨?_,List.forall_mem_cons.2 ⟨?_,fun _ h=>absurd h List.not_mem_nil⟩⟩
       ·refine BC o0 [1,2,4,5,24,25,26,7,64] [] [(1,Ac k),(2,pt z),(AZ z),(Bq k n c),(BB b17 o18 y8),(Bg y8),(26,Ac n),(BG n15),(64,.slice (some ⟨n43,0,none⟩) 3 3)] ⟨w,n43+1,[(Ak w),(BJ z c),(BN z),(BQ y24 n15),(U0 y24 k n n43)]⟩ [0,1,2,3] Af (.inr rfl) ?_
        refine Io [34,35] ?_
        refine List.forall_mem_cons.2 ⟨?_,List.forall_mem_cons.2 ⟨?_,fun _ h=>absurd h List.not_mem_nil⟩⟩
        ·refine FM 91 #[.slice (some ⟨n43,0,none⟩) 3 3] (some 65) (.agg (Am.arr (Ba [(Ae (win y24.BO 1 16384) 419 ⟨(k:Int),(n:Int)⟩),(Ae (win y24.AL 82 16384) 420 ⟨(k:Int),(n:Int)⟩),(Ae false 422 ⟨(k:Int),(n:Int)⟩)]))) [1,2,4,5,24,25,26,7,65] [(1,Ac k),(2,pt z),(AZ z),(Bq k n c),(BB b17 o18 y8),(Bg y8),(26,Ac n),(BG n15),(O9 y24 k n)] [0,1,2,3] (fun w65 hw65=>Dp w65 (hL.ext (hw65.ext rfl)) ⟨some ⟨n43,0,none⟩,3,[(Ae (win y24.BO 1 16384) 419 ⟨(k:Int),(n:Int)⟩),(Ae (win y24.AL 82 16384) 420 ⟨(k:Int),(n:Int)⟩),(Ae false 422 ⟨(k:Int),(n:Int)⟩)]⟩ (Eb hw65 (i:=4) [(Ae (win y24.BO 1 16384) 419 ⟨(k:Int),(n:Int)⟩),(Ae (win y24.AL 82 16384) 420 ⟨(k:Int),(n:Int)⟩),(Ae false 422 ⟨(k:Int),(n:Int)⟩)]) (show 3≤1000 by decide)) (fun n66 hn67 => ?_)
         replace hn67:n43+1≤n66:=hn67
         refine Bv 35 ?_
         refine BC o0 [1,2,4,5,24,25,26,7,65,8] [] [(1,Ac k),(2,pt z),(AZ z),(Bq k n c),(BB b17 o18 y8),(Bg y8),(26,Ac n),(BG n15),(O9 y24 k n),(8,pt n66)] ⟨w,n66+1,[(Ak w),(BJ z c),(BN z),(BQ y24 n15),(U0 y24 k n n43),(bk n66 #[i6 0,i6 0,i6 0] 111)]⟩ [0,1,2,3] Af (.inr rfl) ?_
         refine Kq [0,1,2,3,5,4] [(Ak w),(BJ z c),(BN z),(BQ y24 n15),(bk n66 #[i6 0,i6 0,i6 0] 111),(U0 y24 k n n43)] rfl rfl ?_
         refine Dt [1,2,4,5,24,25,26,7,8,65] [(1,Ac k),(2,pt z),(AZ z),(Bq k n c),(BB b17 o18 y8),(Bg y8),(26,Ac n),(BG n15),(8,pt n66),(O9 y24 k n)] ?_
         exact hv55 ⟨(n66+1,n66,n43),by first | omega | (dsimp only;omega)⟩
        refine BC o0 [1,2,4,5,24,25,26,7,64,8] [] [(1,Ac k),(2,pt z),(AZ z),(Bq k n c),(BB b17 o18 y8),(Bg y8),(26,Ac n),(BG n15),(64,.slice (some ⟨n43,0,none⟩) 3 3),(8,pt (n43+1))] ⟨w,n43+2,[(Ak w),(BJ z c),(BN z),(BQ y24 n15),(U0 y24 k n n43),(bk (n43+1) #[i6 0,i6 0,i6 0] 111)]⟩ [0,1,2,3] Af (.inr rfl) ?_
        refine Kq [0,1,2,3,5,4] [(Ak w),(BJ z c),(BN z),(BQ y24 n15),(bk (n43+1) #[i6 0,i6 0,i6 0] 111),(U0 y24 k n n43)] rfl rfl ?_
        refine Dt [1,2,4,5,24,25,26,7,8,64] [(1,Ac k),(2,pt z),(AZ z),(Bq k n c),(BB b17 o18 y8),(Bg y8),(26,Ac n),(BG n15),(8,pt (n43+1)),(64,.slice (some ⟨n43,0,none⟩) 3 3)] ?_
        exact hv60 ⟨(n43+2,n43+1,n43),by first | omega | (dsimp only;omega)⟩
       refine BC o0 [1,2,4,5,24,25,26,7,46,53,63,8] [] [(1,Ac k),(2,pt z),(AZ z),(Bq k n c),(BB b17 o18 y8),(Bg y8),(26,Ac n),(BG n15),(OM y24 k n),(Jz y24 k n),(N7 k n),(8,pt n43)] ⟨w,n43+1,[(Ak w),(BJ z c),(BN z),(BQ y24 n15),(bk n43 #[i6 0,i6 0,i6 0] 111)]⟩ [0,1,2,3] Af (.inr rfl) ?_
       refine Dt [8,1,2,4,5,24,25,26,7,46,53,63] [(8,pt n43),(1,Ac k),(2,pt z),(AZ z),(Bq k n c),(BB b17 o18 y8),(Bg y8),(26,Ac n),(BG n15),(OM y24 k n),(Jz y24 k n),(N7 k n)] ?_
       exact hv45 ⟨(n43+1,n43),by first | omega | (dsimp only;omega)⟩
      rintro⟨⟨n30,b31,b32⟩,hJ68⟩
      simp only at hJ68
      show E _ _ [(1,Ac k),(2,pt z),(AZ z),(Bq k n c),(BB b17 o18 y8),(Bg y8),(26,Ac n),(BG n15),(8,pt b32)] _ ⟨w,n30,[(Ak w),(BJ z c),(BN z),(BQ y24 n15),(bk b31 #[i6 ((Ae (win y24.BO 1 16384) 419 ⟨(k:Int),(n:Int)⟩).e),i6 ((Ae (win y24.BO 1 16384) 419 ⟨(k:Int),(n:Int)⟩).Ag.First),i6 ((Ae (win y24.BO 1 16384) 419 ⟨(k:Int),(n:Int)⟩).Ag.Second),i6 ((Ae (win y24.AL 82 16384) 420 ⟨(k:Int),(n:Int)⟩).e),i6 ((Ae (win y24.AL 82 16384) 420 ⟨(k:Int),(n:Int)⟩).Ag.First),i6 ((Ae (win y24.AL 82 16384) 420 ⟨(k:Int),(n:Int)⟩).Ag.Second),i6 ((Ae false 422 ⟨(k:Int),(n:Int)⟩).e),i6 ((Ae false 422 ⟨(k:Int),(n:Int)⟩).Ag.First),i6 ((Ae false 422 ⟨(k:Int),(n:Int)⟩).Ag.Second)] 111),(Xo y24 k n b32)]⟩ _ _ _
      refine BX [0,1,2,3,5] [(Ak w),(BJ z c),(BN z),(BQ y24 n15),(Xo y24 k n b32)] rfl rfl ?_
      have e0:gd (F9 c k).xs n=y24:=(by rw[hy24,hy8])
      have eA:GI c k n=(Ba [(Ae (win y24.BO 1 16384) 419 ⟨(k:Int),(n:Int)⟩),(Ae (win y24.AL 82 16384) 420 ⟨(k:Int),(n:Int)⟩),(Ae false 422 ⟨(k:Int),(n:Int)⟩)]):=(by unfold GI UM;simp only[e0];simp[h27,h29])
      refine BR [1,2,4,5,7,8,24,25,26] [(1,Ac k),(2,pt z),(AZ z),(Bq k n c),(BG n15),(8,pt b32),(BB b17 o18 y8),(Bg y8),(26,Ac n)] ?_
      refine Cf (fun a w' hs=>⟨n30,b32,by omega,(by(try dsimp only[Xo,BN,BQ,BJ,OM,Jz,N7,OU,BB,Bg,AZ,Kw,Bq,BG]at hs ⊢);rw[eA];exact hs)⟩)
     refine Eo 36 [0,1,2,3] [(Ak w),(BJ z c),(BN z),(BQ y24 n15)] rfl rfl ?_
     refine D6 [(0,o0),(1,(a1 3)),(2,o0),(3,(a1 1)),(4,o0),(5,(ov (i6 ((c.Aa.xs.length:Int) - 1)))),(12,o0),(13,o0),(16,o0),(17,(a1 3)),(19,o0),(20,o0),(23,(an 7 1)),(24,o0),(25,o0),(26,(a1 3)),(29,o0),(30,o0)] [1,2,4,5,24,25,26,7,32,36,43,44,48,50,51,54,55,57,60,61] [Qb n15,Qb z,Wr ((c.Aa.xs.length:Int) - 1) ((c.Aa.xs.length:Int) - 1),Qb n15,Qb z,Qb z,Qb z,Qb z,Qb z,Qb z,Qb z,Qb n15] [true,true,true,true,true,true,false,false,false,false,false,false,true,true,false,false,true,true,false,true,true,false,false,true,true,true,true,false,false,true,true,false,false,false,false,false,false] [(1,Ac k),(2,pt z),(AZ z),(Bq k n c),(BB b17 o18 y8),(Bg y8),(26,Ac n),(BG n15),(32,i6 y24.Partition),(OU c),(43,Ac k),(44,Ac n),(48,i6 y24.AL),(50,Ac k),(51,Ac n),(54,.agg (Aj.arr c)),(55,Ac k),(57,i6 y24.Partition),(60,Ac k),(61,Ac n)] ⟨rfl,rfl,CB,rfl,rfl,rfl,rfl,rfl,rfl,rfl,rfl,rfl,Af⟩ ?_
     refine Oq (fun x:{p:Nat×Nat×Nat // n15+1≤p.1∧n15+1≤p.2.1∧n15+1≤p.2.2}=>([(1,Ac k),(2,pt z),(AZ z),(Bq k n c),(BB b17 o18 y8),(Bg y8),(26,Ac n),(BG n15),(8,pt x.1.2.2)],⟨w,x.1.1,[(Ak w),(BJ z c),(BN z),(BQ y24 n15),(.blk x.1.2.1 (.cells #[i6 ((Ae (win y24.BO 1 16384) 419 ⟨(k:Int),(n:Int)⟩).e),i6 ((Ae (win y24.BO 1 16384) 419 ⟨(k:Int),(n:Int)⟩).Ag.First),i6 ((Ae (win y24.BO 1 16384) 419 ⟨(k:Int),(n:Int)⟩).Ag.Second),i6 ((Ae (win y24.AL 82 16384) 420 ⟨(k:Int),(n:Int)⟩).e),i6 ((Ae (win y24.AL 82 16384) 420 ⟨(k:Int),(n:Int)⟩).Ag.First),i6 ((Ae (win y24.AL 82 16384) 420 ⟨(k:Int),(n:Int)⟩).Ag.Second),i6 ((Ae true 422 ⟨(k:Int),(n:Int)⟩).e),i6 ((Ae true 422 ⟨(k:Int),(n:Int)⟩).Ag.First),i6 ((Ae true 422 ⟨(k:Int),(n:Int)⟩).Ag.Second)] 111 (0,0)) true),(.blk x.1.2.2 (.cells (Am.arr (Ba [(Ae (win y24.BO 1 16384) 419 ⟨(k:Int),(n:Int)⟩),(Ae (win y24.AL 82 16384) 420 ⟨(k:Int),(n:Int)⟩),(Ae true 422 ⟨(k:Int),(n:Int)⟩)])) 111 (0,0)) true)]⟩)) (fun hK => ?_) ?_
     ·refine NR 35 8 [.cl 6 (.bool (win y24.Partition (-1) ((c.Aa.xs.length:Int) - 1))),.tk 7 (ov (.bool true)),.tk 8 o0,.tk 9 (a1 3),.cl 10 (.bool (win y24.BO 1 16384)),.tk 11 o0,.cl 14 (.agg #[(Ac k),Ac n]),.cl 15 (.agg (Am.arr (Ae (win y24.BO 1 16384) 419 ⟨(k:Int),(n:Int)⟩))),.cl 18 (.bool (win y24.AL 82 16384)),.cl 21 (.agg #[(Ac k),Ac n]),.cl 22 (.agg (Am.arr (Ae (win y24.AL 82 16384) 420 ⟨(k:Int),(n:Int)⟩))),.cl 27 (.bool (JI c k y24.Partition)),.tk 28 (ov (.bool true)),.cl 31 (.agg #[(Ac k),Ac n]),.cl 32 (.agg (Am.arr (Ae true 422 ⟨(k:Int),(n:Int)⟩)))] [1,2,4,5,24,25,26,7,46,53,63] [(63,#[i6 y24.Partition,i6 (-1),i6 ((c.Aa.xs.length:Int) - 1)],.bool (win y24.Partition (-1) ((c.Aa.xs.length:Int) - 1))),(63,#[i6 y24.BO,i6 1,i6 16384],.bool (win y24.BO 1 16384)),(96,#[(Ac k),Ac n],.agg #[(Ac k),Ac n]),(62,#[.bool (win y24.BO 1 16384),i6 419,.agg #[(Ac k),Ac n]],.agg (Am.arr (Ae (win y24.BO 1 16384) 419 ⟨(k:Int),(n:Int)⟩))),(63,#[i6 y24.AL,i6 82,i6 16384],.bool (win y24.AL 82 16384)),(96,#[(Ac k),Ac n],.agg #[(Ac k),Ac n]),(62,#[.bool (win y24.AL 82 16384),i6 420,.agg #[(Ac k),Ac n]],.agg (Am.arr (Ae (win y24.AL 82 16384) 420 ⟨(k:Int),(n:Int)⟩))),(98,#[.agg (Aj.arr c),Ac k,i6 y24.Partition],.bool (JI c k y24.Partition)),(96,#[(Ac k),Ac n],.agg #[(Ac k),Ac n]),(62,#[.bool true,i6 422,.agg #[(Ac k),Ac n]],.agg (Am.arr (Ae true 422 ⟨(k:Int),(n:Int)⟩)))] (DC 33 4) [Value.bool (win y24.Partition (-1) ((c.Aa.xs.length:Int) - 1))=Value.bool true,Qb n15,Value.bool (!(JI c k y24.Partition))=Value.bool true] [(1,Ac k),(2,pt z),(AZ z),(Bq k n c),(BB b17 o18 y8),(Bg y8),(26,Ac n),(BG n15),(OM y24 k n),(Jz y24 k n),(OI k n)] (.cells #[i6 0,i6 0,i6 0] 111 (0,0)) [0,1,2,3] ⟨(congrArg Value.bool h27),rfl,by simp[h29],Af⟩ ⟨fun w72 hw72=>BL w72 y24.Partition (-1) ((c.Aa.xs.length:Int) - 1),fun w73 hw73=>BL w73 y24.BO 1 16384,fun w74 hw74=>F5 w74 (k:Int) (n:Int),fun w75 hw75=>AY w75 (hL.ext (hw75.ext rfl)) (win y24.BO 1 16384) 419 (k:Int) (n:Int),fun w76 hw76=>BL w76 y24.AL 82 16384,fun w77 hw77=>F5 w77 (k:Int) (n:Int),fun w78 hw78=>AY w78 (hL.ext (hw78.ext rfl)) (win y24.AL 82 16384) 420 (k:Int) (n:Int),fun w79 hw79=>Qj w79 c (hc.ext (hw79.ext rfl) (fun _ h=>h)) k hk y24.Partition,fun w80 hw80=>F5 w80 (k:Int) (n:Int),fun w81 hw81=>AY w81 (hL.ext (hw81.ext rfl)) true 422 (k:Int) (n:Int),Af⟩ ?_ (fun hv84 n82 hn83 => ?_)
      ·rintro⟨⟨n85,b86⟩,hb87⟩
       simp only at hb87
       refine Bv 33 ?_
       refine BC o0 [8,1,2,4,5,24,25,26,7,64] [] [(8,pt b86),(1,Ac k),(2,pt z),(AZ z),(Bq k n c),(BB b17 o18 y8),(Bg y8),(26,Ac n),(BG n15),(64,.slice (some ⟨n85,0,none⟩) 3 3)] ⟨w,n85+1,[(Ak w),(BJ z c),(BN z),(BQ y24 n15),(bk b86 #[i6 0,i6 0,i6 0] 111),(WE y24 k n n85)]⟩ [0,1,2,3] Af (.inr rfl) ?_
       refine Bv 34 ?_
       refine FM 91 #[.slice (some ⟨n85,0,none⟩) 3 3] (some 65) (.agg (Am.arr (Ba [(Ae (win y24.BO 1 16384) 419 ⟨(k:Int),(n:Int)⟩),(Ae (win y24.AL 82 16384) 420 ⟨(k:Int),(n:Int)⟩),(Ae true 422 ⟨(k:Int),(n:Int)⟩)]))) [8,1,2,4,5,24,25,26,7,65] [(8,pt b86),(1,Ac k),(2,pt z),(AZ z),(Bq k n c),(BB b17 o18 y8),(Bg y8),(26,Ac n),(BG n15),(Ph y24 k n)] [0,1,2,3] (fun w88 hw88=>Dp w88 (hL.ext (hw88.ext rfl)) ⟨some ⟨n85,0,none⟩,3,[(Ae (win y24.BO 1 16384) 419 ⟨(k:Int),(n:Int)⟩),(Ae (win y24.AL 82 16384) 420 ⟨(k:Int),(n:Int)⟩),(Ae true 422 ⟨(k:Int),(n:Int)⟩)]⟩ (Eb hw88 (i:=5) [(Ae (win y24.BO 1 16384) 419 ⟨(k:Int),(n:Int)⟩),(Ae (win y24.AL 82 16384) 420 ⟨(k:Int),(n:Int)⟩),(Ae true 422 ⟨(k:Int),(n:Int)⟩)]) (show 3≤1000 by decide)) (fun n89 hn90 => ?_)
       replace hn90:n85+1≤n89:=hn90
       refine Bv 36 ?_
       refine BC (an 3 4) [8,1,2,4,5,24,25,26,7] [Qb b86,Qb b86,Qb b86] [(8,pt b86),(1,Ac k),(2,pt z),(AZ z),(Bq k n c),(BB b17 o18 y8),(Bg y8),(26,Ac n),(BG n15)] ⟨w,n89,[(Ak w),(BJ z c),(BN z),(BQ y24 n15),(XN y24 k n b86),(WE y24 k n n85)]⟩ [] ⟨rfl,rfl,rfl,Af⟩ (.inl rfl) ?_
       refine DV 37 [0,1,2,3,4,5] [(Ak w),(BJ z c),(BN z),(BQ y24 n15),(XN y24 k n b86),(WE y24 k n n85)] rfl rfl ?_
       refine Dl ?_
       refine BR [1,2,4,5,24,25,26,7,8] [(1,Ac k),(2,pt z),(AZ z),(Bq k n c),(BB b17 o18 y8),(Bg y8),(26,Ac n),(BG n15),(8,pt b86)] ?_
       refine BX [0,1,2,3,5,4] [(Ak w),(BJ z c),(BN z),(BQ y24 n15),(WE y24 k n n85),(XN y24 k n b86)] rfl rfl ?_
       exact hK ⟨(n89,n85,b86),by first | omega | (dsimp only;omega)⟩
      replace hn83:n15+1≤n82:=hn83
      refine LM (fun x:{p:Nat×Nat×Nat // n82≤p.1∧n82≤p.2.1∧n82≤p.2.2}=>[(1,Ac k),(2,pt z),(AZ z),(Bq k n c),(BB b17 o18 y8),(Bg y8),(26,Ac n),(BG n15),(8,pt x.1.2.1),(Ph y24 k n)]) (fun x=>⟨w,x.1.1,[(Ak w),(BJ z c),(BN z),(BQ y24 n15),(.blk x.1.2.1 (.cells #[i6 0,i6 0,i6 0] 111 (0,0)) true),(.blk x.1.2.2 (.cells #[i6 ((Ae (win y24.BO 1 16384) 419 ⟨(k:Int),(n:Int)⟩).e),i6 ((Ae (win y24.BO 1 16384) 419 ⟨(k:Int),(n:Int)⟩).Ag.First),i6 ((Ae (win y24.BO 1 16384) 419 ⟨(k:Int),(n:Int)⟩).Ag.Second),i6 ((Ae (win y24.AL 82 16384) 420 ⟨(k:Int),(n:Int)⟩).e),i6 ((Ae (win y24.AL 82 16384) 420 ⟨(k:Int),(n:Int)⟩).Ag.First),i6 ((Ae (win y24.AL 82 16384) 420 ⟨(k:Int),(n:Int)⟩).Ag.Second),i6 ((Ae true 422 ⟨(k:Int),(n:Int)⟩).e),i6 ((Ae true 422 ⟨(k:Int),(n:Int)⟩).Ag.First),i6 ((Ae true 422 ⟨(k:Int),(n:Int)⟩).Ag.Second)] 111 (0,0)) true)]⟩) 1 (DC 36 1) ?_ (fun hv94 => ?_)
      ·rintro⟨⟨n91,b92,b93⟩,hb95⟩
       simp only at hb95
       show Wg _ _ [(1,Ac k),(2,pt z),(AZ z),(Bq k n c),(BB b17 o18 y8),(Bg y8),(26,Ac n),(BG n15),(8,pt b92),(Ph y24 k n)] _ ⟨w,n91,[(Ak w),(BJ z c),(BN z),(BQ y24 n15),(bk b92 #[i6 0,i6 0,i6 0] 111),(WC y24 k n b93)]⟩ _ _ _ _ _ _ _
       refine Bv 36 ?_
       refine BC (an 3 4) [1,2,4,5,24,25,26,7,8] [Qb b92,Qb b92,Qb b92] [(1,Ac k),(2,pt z),(AZ z),(Bq k n c),(BB b17 o18 y8),(Bg y8),(26,Ac n),(BG n15),(8,pt b92)] ⟨w,n91,[(Ak w),(BJ z c),(BN z),(BQ y24 n15),(Xc y24 k n b92),(WC y24 k n b93)]⟩ [] ⟨rfl,rfl,rfl,Af⟩ (.inl rfl) ?_
       refine DV 37 [0,1,2,3,4,5] [(Ak w),(BJ z c),(BN z),(BQ y24 n15),(Xc y24 k n b92),(WC y24 k n b93)] rfl rfl ?_
       refine Dl ?_
       refine BR [1,2,4,5,24,25,26,7,8] [(1,Ac k),(2,pt z),(AZ z),(Bq k n c),(BB b17 o18 y8),(Bg y8),(26,Ac n),(BG n15),(8,pt b92)] ?_
       refine BX [0,1,2,3,5,4] [(Ak w),(BJ z c),(BN z),(BQ y24 n15),(WC y24 k n b93),(Xc y24 k n b92)] rfl rfl ?_
       exact hK ⟨(n91,b93,b92),by first | omega | (dsimp only;omega)⟩
      refine LM (fun x:{p:Nat×Nat×Nat // n82≤p.1∧n82≤p.2.1∧n82≤p.2.2}=>[(1,Ac k),(2,pt z),(AZ z),(Bq k n c),(BB b17 o18 y8),(Bg y8),(26,Ac n),(BG n15),(8,pt x.1.2.1),(64,.slice (some ⟨x.1.2.2,0,none⟩) 3 3)]) (fun x=>⟨w,x.1.1,[(Ak w),(BJ z c),(BN z),(BQ y24 n15),(.blk x.1.2.1 (.cells #[i6 0,i6 0,i6 0] 111 (0,0)) true),(.blk x.1.2.2 (.cells #[i6 ((Ae (win y24.BO 1 16384) 419 ⟨(k:Int),(n:Int)⟩).e),i6 ((Ae (win y24.BO 1 16384) 419 ⟨(k:Int),(n:Int)⟩).Ag.First),i6 ((Ae (win y24.BO 1 16384) 419 ⟨(k:Int),(n:Int)⟩).Ag.Second),i6 ((Ae (win y24.AL 82 16384) 420 ⟨(k:Int),(n:Int)⟩).e),i6 ((Ae (win y24.AL 82 16384) 420 ⟨(k:Int),(n:Int)⟩).Ag.First),i6 ((Ae (win y24.AL 82 16384) 420 ⟨(k:Int),(n:Int)⟩).Ag.Second),i6 ((Ae true 422 ⟨(k:Int),(n:Int)⟩).e),i6 ((Ae true 422 ⟨(k:Int),(n:Int)⟩).Ag.First),i6 ((Ae true 422 ⟨(k:Int),(n:Int)⟩).Ag.Second)] 111 (0,0)) true)]⟩) 2 [true,true,true,true,true,true,true,true,true,true,true,true,true,true,true,true,true,true,true,true,true,true,true,true,true,true,true,true,true,true,true,true,true,true,false,true,false] ?_ (fun hv99 => ?_)
      ·rintro⟨⟨n96,b97,b98⟩,hb100⟩
       simp only at hb100
       show Wg _ _ [(1,Ac k),(2,pt z),(AZ z),(Bq k n c),(BB b17 o18 y8),(Bg y8),(26,Ac n),(BG n15),(8,pt b97),(64,.slice (some ⟨b98,0,none⟩) 3 3)] _ ⟨w,n96,[(Ak w),(BJ z c),(BN z),(BQ y24 n15),(bk b97 #[i6 0,i6 0,i6 0] 111),(bk b98 #[i6 ((Ae (win y24.BO 1 16384) 419 ⟨(k:Int),(n:Int)⟩).e),i6 ((Ae (win y24.BO 1 16384) 419 ⟨(k:Int),(n:Int)⟩).Ag.First),i6 ((Ae (win y24.BO 1 16384) 419 ⟨(k:Int),(n:Int)⟩).Ag.Second),i6 ((Ae (win y24.AL 82 16384) 420 ⟨(k:Int),(n:Int)⟩).e),i6 ((Ae (win y24.AL 82 16384) 420 ⟨(k:Int),(n:Int)⟩).Ag.First),i6 ((Ae (win y24.AL 82 16384) 420 ⟨(k:Int),(n:Int)⟩).Ag.Second),i6 ((Ae true 422 ⟨(k:Int),(n:Int)⟩).e),i6 ((Ae true 422 ⟨(k:Int),(n:Int)⟩).Ag.First),i6 ((Ae true 422 ⟨(k:Int),(n:Int)⟩).Ag.Second)] 111)]⟩ _ _ _ _ _ _ _
       refine Bv 34 ?_
       refine FM 91 #[.slice (some ⟨b98,0,none⟩) 3 3] (some 65) (.agg (Am.arr (Ba [(Ae (win y24.BO 1 16384) 419 ⟨(k:Int),(n:Int)⟩),(Ae (win y24.AL 82 16384) 420 ⟨(k:Int),(n:Int)⟩),(Ae true 422 ⟨(k:Int),(n:Int)⟩)]))) [1,2,4,5,24,25,26,7,8,65] [(1,Ac k),(2,pt z),(AZ z),(Bq k n c),(BB b17 o18 y8),(Bg y8),(26,Ac n),(BG n15),(8,pt b97),(Ph y24 k n)] [0,1,2,3] (fun w101 hw101=>Dp w101 (hL.ext (hw101.ext rfl)) ⟨some ⟨b98,0,none⟩,3,[(Ae (win y24.BO 1 16384) 419 ⟨(k:Int),(n:Int)⟩),(Ae (win y24.AL 82 16384) 420 ⟨(k:Int),(n:Int)⟩),(Ae true 422 ⟨(k:Int),(n:Int)⟩)]⟩ (Eb hw101 (i:=5) [(Ae (win y24.BO 1 16384) 419 ⟨(k:Int),(n:Int)⟩),(Ae (win y24.AL 82 16384) 420 ⟨(k:Int),(n:Int)⟩),(Ae true 422 ⟨(k:Int),(n:Int)⟩)]) (show 3≤1000 by decide)) (fun n102 hn103 => ?_)
       replace hn103:n96≤n102:=hn103
       refine Dt [1,2,4,5,24,25,26,7,8,65] [(1,Ac k),(2,pt z),(AZ z),(Bq k n c),(BB b17 o18 y8),(Bg y8),(26,Ac n),(BG n15),(8,pt b97),(Ph y24 k n)] ?_
       exact hv94 ⟨(n102,b97,b98),by first | omega | (dsimp only;omega)⟩
      refine Io [33,35] ?_
      refine List.forall_mem_cons.2 ⟨?_,List.forall_mem_cons.2 ⟨?_,fun _ h=>absurd h List.not_mem_nil⟩⟩
      ·refine BC o0 [1,2,4,5,24,25,26,7,64] [] [(1,Ac k),(2,pt z),(AZ z),(Bq k n c),(BB b17 o18 y8),(Bg y8),(26,Ac n),(BG n15),(64,.slice (some ⟨n82,0,none⟩) 3 3)] ⟨w,n82+1,[(Ak w),(BJ z c),(BN z),(BQ y24 n15),(Ux y24 k n n82)]⟩ [0,1,2,3] Af (.inr rfl) ?_
       refine Io [34,35] ?_
       refine List.forall_mem_cons.2 ⟨?_,List.forall_mem_cons.2 ⟨?_,fun _ h=>absurd h List.not_mem_nil⟩⟩
       ·refine FM 91 #[.slice (some ⟨n82,0,none⟩) 3 3] (some 65) (.agg (Am.arr (Ba [(Ae (win y24.BO 1 16384) 419 ⟨(k:Int),(n:Int)⟩),(Ae (win y24.AL 82 16384) 420 ⟨(k:Int),(n:Int)⟩),(Ae true 422 ⟨(k:Int),(n:Int)⟩)]))) [1,2,4,5,24,25,26,7,65] [(1,Ac k),(2,pt z),(AZ z),(Bq k n c),(BB b17 o18 y8),(Bg y8),(26,Ac n),(BG n15),(Ph y24 k n)] [0,1,2,3] (fun w104 hw104=>Dp w104 (hL.ext (hw104.ext rfl)) ⟨some ⟨n82,0,none⟩,3,[(Ae (win y24.BO 1 16384) 419 ⟨(k:Int),(n:Int)⟩),(Ae (win y24.AL 82 16384) 420 ⟨(k:Int),(n:Int)⟩),(Ae true 422 ⟨(k:Int),(n:Int)⟩)]⟩ (Eb hw104 (i:=4) [(Ae (win y24.BO 1 16384) 419 ⟨(k:Int),(n:Int)⟩),(Ae (win y24.AL 82 16384) 420 ⟨(k:Int),(n:Int)⟩),(Ae true 422 ⟨(k:Int),(n:Int)⟩)]) (show 3≤1000 by decide)) (fun n105 hn106 => ?_)
        replace hn106:n82+1≤n105:=hn106
        refine Bv 35 ?_
        refine BC o0 [1,2,4,5,24,25,26,7,65,8] [] [(1,Ac k),(2,pt z),(AZ z),(Bq k n c),(BB b17 o18 y8),(Bg y8),(26,Ac n),(BG n15),(Ph y24 k n),(8,pt n105)] ⟨w,n105+1,[(Ak w),(BJ z c),(BN z),(BQ y24 n15),(Ux y24 k n n82),(bk n105 #[i6 0,i6 0,i6 0] 111)]⟩ [0,1,2,3] Af (.inr rfl) ?_
        refine Kq [0,1,2,3,5,4] [(Ak w),(BJ z c),(BN z),(BQ y24 n15),(bk n105 #[i6 0,i6 0,i6 0] 111),(Ux y24 k n n82)] rfl rfl ?_
        refine Dt [1,2,4,5,24,25,26,7,8,65] [(1,Ac k),(2,pt z),(AZ z),(Bq k n c),(BB b17 o18 y8),(Bg y8),(26,Ac n),(BG n15),(8,pt n105),(Ph y24 k n)] ?_
        exact hv94 ⟨(n105+1,n105,n82),by first | omega | (dsimp only;omega)⟩
       refine BC o0 [1,2,4,5,24,25,26,7,64,8] [] [(1,Ac k),(2,pt z),(AZ z),(Bq k n c),(BB b17 o18 y8),(Bg y8),(26,Ac n),(BG n15),(64,.slice (some ⟨n82,0,none⟩) 3 3),(8,pt (n82+1))] ⟨w,n82+2,[(Ak w),(BJ z c),(BN z),(BQ y24 n15),(Ux y24 k n n82),(bk (n82+1) #[i6 0,i6 0,i6 0] 111)]⟩ [0,1,2,3] Af (.inr rfl) ?_
       refine Kq [0,1,2,3,5,4] [(Ak w),(BJ z c),(BN z),(BQ y24 n15),(bk (n82+1) #[i6 0,i6 0,i6 0] 111),(Ux y24 k n n82)] rfl rfl ?_
       refine Dt [1,2,4,5,24,25,26,7,8,64] [(1,Ac k),(2,pt z),(AZ z),(Bq k n c),(BB b17 o18 y8),(Bg y8),(26,Ac n),(BG n15),(8,pt (n82+1)),(64,.slice (some ⟨n82,0,none⟩) 3 3)] ?_
       exact hv99 ⟨(n82+2,n82+1,n82),by first | omega | (dsimp only;omega)⟩
      refine BC o0 [1,2,4,5,24,25,26,7,46,53,63,8] [] [(1,Ac k),(2,pt z),(AZ z),(Bq k n c),(BB b17 o18 y8),(Bg y8),(26,Ac n),(BG n15),(OM y24 k n),(Jz y24 k n),(OI k n),(8,pt n82)] ⟨w,n82+1,[(Ak w),(BJ z c),(BN z),(BQ y24 n15),(bk n82 #[i6 0,i6 0,i6 0] 111)]⟩ [0,1,2,3] Af (.inr rfl) ?_
      refine Dt [8,1,2,4,5,24,25,26,7,46,53,63] [(8,pt n82),(1,Ac k),(2,pt z),(AZ z),(Bq k n c),(BB b17 o18 y8),(Bg y8),(26,Ac n),(BG n15),(OM y24 k n),(Jz y24 k n),(OI k n)] ?_
      exact hv84 ⟨(n82+1,n82),by first | omega | (dsimp only;omega)⟩
     rintro⟨⟨n69,b70,b71⟩,hJ107⟩
     simp only at hJ107
     show E _ _ [(1,Ac k),(2,pt z),(AZ z),(Bq k n c),(BB b17 o18 y8),(Bg y8),(26,Ac n),(BG n15),(8,pt b71)] _ ⟨w,n69,[(Ak w),(BJ z c),(BN z),(BQ y24 n15),(bk b70 #[i6 ((Ae (win y24.BO 1 16384) 419 ⟨(k:Int),(n:Int)⟩).e),i6 ((Ae (win y24.BO 1 16384) 419 ⟨(k:Int),(n:Int)⟩).Ag.First),i6 ((Ae (win y24.BO 1 16384) 419 ⟨(k:Int),(n:Int)⟩).Ag.Second),i6 ((Ae (win y24.AL 82 16384) 420 ⟨(k:Int),(n:Int)⟩).e),i6 ((Ae (win y24.AL 82 16384) 420 ⟨(k:Int),(n:Int)⟩).Ag.First),i6 ((Ae (win y24.AL 82 16384) 420 ⟨(k:Int),(n:Int)⟩).Ag.Second),i6 ((Ae true 422 ⟨(k:Int),(n:Int)⟩).e),i6 ((Ae true 422 ⟨(k:Int),(n:Int)⟩).Ag.First),i6 ((Ae true 422 ⟨(k:Int),(n:Int)⟩).Ag.Second)] 111),(Xy y24 k n b71)]⟩ _ _ _
     refine BX [0,1,2,3,5] [(Ak w),(BJ z c),(BN z),(BQ y24 n15),(Xy y24 k n b71)] rfl rfl ?_
     have e0:gd (F9 c k).xs n=y24:=(by rw[hy24,hy8])
     have eA:GI c k n=(Ba [(Ae (win y24.BO 1 16384) 419 ⟨(k:Int),(n:Int)⟩),(Ae (win y24.AL 82 16384) 420 ⟨(k:Int),(n:Int)⟩),(Ae true 422 ⟨(k:Int),(n:Int)⟩)]):=(by unfold GI UM;simp only[e0];simp[h27,h29])
     refine BR [1,2,4,5,7,8,24,25,26] [(1,Ac k),(2,pt z),(AZ z),(Bq k n c),(BG n15),(8,pt b71),(BB b17 o18 y8),(Bg y8),(26,Ac n)] ?_
     refine Cf (fun a w' hs=>⟨n69,b71,by omega,(by(try dsimp only[Xy,BN,BQ,BJ,OM,Jz,N7,OI,OU,BB,Bg,AZ,Kw,Bq,BG]at hs ⊢);rw[eA];exact hs)⟩)
    have hd108:=Ko h27
    by_cases h109:(JI c k y24.Partition)=true
    ·refine Eo 36 [0,1,2,3] [(Ak w),(BJ z c),(BN z),(BQ y24 n15)] rfl rfl ?_
     refine D6 [(0,o0),(1,(a1 3)),(2,o0),(3,(a1 1)),(4,o0),(5,(ov (i6 ((c.Aa.xs.length:Int) - 1)))),(12,o0),(13,o0),(16,o0),(17,(a1 3)),(19,o0),(20,o0),(23,(an 7 1)),(24,o0),(25,o0),(26,(a1 3)),(29,o0),(30,o0)] [1,2,4,5,24,25,26,7,32,36,43,44,48,50,51,54,55,57,60,61] [Qb n15,Qb z,Wr ((c.Aa.xs.length:Int) - 1) ((c.Aa.xs.length:Int) - 1),Qb n15,Qb z,Qb z,Qb z,Qb z,Qb z,Qb z,Qb z,Qb n15] [true,true,true,true,true,true,false,false,false,false,false,false,true,true,false,false,true,true,false,true,true,false,false,true,true,true,true,false,false,true,true,false,false,false,false,false,false] [(1,Ac k),(2,pt z),(AZ z),(Bq k n c),(BB b17 o18 y8),(Bg y8),(26,Ac n),(BG n15),(32,i6 y24.Partition),(OU c),(43,Ac k),(44,Ac n),(48,i6 y24.AL),(50,Ac k),(51,Ac n),(54,.agg (Aj.arr c)),(55,Ac k),(57,i6 y24.Partition),(60,Ac k),(61,Ac n)] ⟨rfl,rfl,CB,rfl,rfl,rfl,rfl,rfl,rfl,rfl,rfl,rfl,Af⟩ ?_
     refine Oq (fun x:{p:Nat×Nat×Nat // n15+1≤p.1∧n15+1≤p.2.1∧n15+1≤p.2.2}=>([(1,Ac k),(2,pt z),(AZ z),(Bq k n c),(BB b17 o18 y8),(Bg y8),(26,Ac n),(BG n15),(8,pt x.1.2.2)],⟨w,x.1.1,[(Ak w),(BJ z c),(BN z),(BQ y24 n15),(.blk x.1.2.1 (.cells #[i6 ((Ae false 419 ⟨(k:Int),(n:Int)⟩).e),i6 ((Ae false 419 ⟨(k:Int),(n:Int)⟩).Ag.First),i6 ((Ae false 419 ⟨(k:Int),(n:Int)⟩).Ag.Second),i6 ((Ae (win y24.AL 82 16384) 420 ⟨(k:Int),(n:Int)⟩).e),i6 ((Ae (win y24.AL 82 16384) 420 ⟨(k:Int),(n:Int)⟩).Ag.First),i6 ((Ae (win y24.AL 82 16384) 420 ⟨(k:Int),(n:Int)⟩).Ag.Second),i6 ((Ae false 422 ⟨(k:Int),(n:Int)⟩).e),i6 ((Ae false 422 ⟨(k:Int),(n:Int)⟩).Ag.First),i6 ((Ae false 422 ⟨(k:Int),(n:Int)⟩).Ag.Second)] 111 (0,0)) true),(.blk x.1.2.2 (.cells (Am.arr (Ba [(Ae false 419 ⟨(k:Int),(n:Int)⟩),(Ae (win y24.AL 82 16384) 420 ⟨(k:Int),(n:Int)⟩),(Ae false 422 ⟨(k:Int),(n:Int)⟩)])) 111 (0,0)) true)]⟩)) (fun hK => ?_) ?_
     ·refine NR 35 8 [.cl 6 (.bool (win y24.Partition (-1) ((c.Aa.xs.length:Int) - 1))),.tk 7 (ov (.bool false)),.tk 8 o0,.tk 9 o0,.tk 10 o0,.tk 11 o0,.cl 14 (.agg #[(Ac k),Ac n]),.cl 15 (.agg (Am.arr (Ae false 419 ⟨(k:Int),(n:Int)⟩))),.cl 18 (.bool (win y24.AL 82 16384)),.cl 21 (.agg #[(Ac k),Ac n]),.cl 22 (.agg (Am.arr (Ae (win y24.AL 82 16384) 420 ⟨(k:Int),(n:Int)⟩))),.cl 27 (.bool (JI c k y24.Partition)),.tk 28 (ov (.bool false)),.cl 31 (.agg #[(Ac k),Ac n]),.cl 32 (.agg (Am.arr (Ae false 422 ⟨(k:Int),(n:Int)⟩)))] [1,2,4,5,24,25,26,7,46,53,63] [(63,#[i6 y24.Partition,i6 (-1),i6 ((c.Aa.xs.length:Int) - 1)],.bool (win y24.Partition (-1) ((c.Aa.xs.length:Int) - 1))),(96,#[(Ac k),Ac n],.agg #[(Ac k),Ac n]),(62,#[.bool false,i6 419,.agg #[(Ac k),Ac n]],.agg (Am.arr (Ae false 419 ⟨(k:Int),(n:Int)⟩))),(63,#[i6 y24.AL,i6 82,i6 16384],.bool (win y24.AL 82 16384)),(96,#[(Ac k),Ac n],.agg #[(Ac k),Ac n]),(62,#[.bool (win y24.AL 82 16384),i6 420,.agg #[(Ac k),Ac n]],.agg (Am.arr (Ae (win y24.AL 82 16384) 420 ⟨(k:Int),(n:Int)⟩))),(98,#[.agg (Aj.arr c),Ac k,i6 y24.Partition],.bool (JI c k y24.Partition)),(96,#[(Ac k),Ac n],.agg #[(Ac k),Ac n]),(62,#[.bool false,i6 422,.agg #[(Ac k),Ac n]],.agg (Am.arr (Ae false 422 ⟨(k:Int),(n:Int)⟩)))] (DC 33 4) [Value.bool (win y24.Partition (-1) ((c.Aa.xs.length:Int) - 1))=Value.bool false,Value.bool (!(JI c k y24.Partition))=Value.bool false] [(1,Ac k),(2,pt z),(AZ z),(Bq k n c),(BB b17 o18 y8),(Bg y8),(26,Ac n),(BG n15),(OX k n),(Jz y24 k n),(N7 k n)] (.cells #[i6 0,i6 0,i6 0] 111 (0,0)) [0,1,2,3] ⟨(congrArg Value.bool (Bool.eq_false_iff.2 h27)),by simp[h109],Af⟩ ⟨fun w113 hw113=>BL w113 y24.Partition (-1) ((c.Aa.xs.length:Int) - 1),fun w114 hw114=>F5 w114 (k:Int) (n:Int),fun w115 hw115=>AY w115 (hL.ext (hw115.ext rfl)) false 419 (k:Int) (n:Int),fun w116 hw116=>BL w116 y24.AL 82 16384,fun w117 hw117=>F5 w117 (k:Int) (n:Int),fun w118 hw118=>AY w118 (hL.ext (hw118.ext rfl)) (win y24.AL 82 16384) 420 (k:Int) (n:Int),fun w119 hw119=>Qj w119 c (hc.ext (hw119.ext rfl) (fun _ h=>h)) k hk y24.Partition,fun w120 hw120=>F5 w120 (k:Int) (n:Int),fun w121 hw121=>AY w121 (hL.ext (hw121.ext rfl)) false 422 (k:Int) (n:Int),Af⟩ ?_ (fun hv124 n122 hn123 => ?_)
      ·rintro⟨⟨n125,b126⟩,hb127⟩
       simp only at hb127
       refine Bv 33 ?_
       refine BC o0 [8,1,2,4,5,24,25,26,7,64] [] [(8,pt b126),(1,Ac k),(2,pt z),(AZ z),(Bq k n c),(BB b17 o18 y8),(Bg y8),(26,Ac n),(BG n15),(64,.slice (some ⟨n125,0,none⟩) 3 3)] ⟨w,n125+1,[(Ak w),(BJ z c),(BN z),(BQ y24 n15),(bk b126 #[i6 0,i6 0,i6 0] 111),(Wh y24 k n n125)]⟩ [0,1,2,3] Af (.inr rfl) ?_
       refine Bv 34 ?_
       refine FM 91 #[.slice (some ⟨n125,0,none⟩) 3 3] (some 65) (.agg (Am.arr (Ba [(Ae false 419 ⟨(k:Int),(n:Int)⟩),(Ae (win y24.AL 82 16384) 420 ⟨(k:Int),(n:Int)⟩),(Ae false 422 ⟨(k:Int),(n:Int)⟩)]))) [8,1,2,4,5,24,25,26,7,65] [(8,pt b126),(1,Ac k),(2,pt z),(AZ z),(Bq k n c),(BB b17 o18 y8),(Bg y8),(26,Ac n),(BG n15),(O6 y24 k n)] [0,1,2,3] (fun w128 hw128=>Dp w128 (hL.ext (hw128.ext rfl)) ⟨some ⟨n125,0,none⟩,3,[(Ae false 419 ⟨(k:Int),(n:Int)⟩),(Ae (win y24.AL 82 16384) 420 ⟨(k:Int),(n:Int)⟩),(Ae false 422 ⟨(k:Int),(n:Int)⟩)]⟩ (Eb hw128 (i:=5) [(Ae false 419 ⟨(k:Int),(n:Int)⟩),(Ae (win y24.AL 82 16384) 420 ⟨(k:Int),(n:Int)⟩),(Ae false 422 ⟨(k:Int),(n:Int)⟩)]) (show 3≤1000 by decide)) (fun n129 hn130 => ?_)
       replace hn130:n125+1≤n129:=hn130
       refine Bv 36 ?_
       refine BC (an 3 4) [8,1,2,4,5,24,25,26,7] [Qb b126,Qb b126,Qb b126] [(8,pt b126),(1,Ac k),(2,pt z),(AZ z),(Bq k n c),(BB b17 o18 y8),(Bg y8),(26,Ac n),(BG n15)] ⟨w,n129,[(Ak w),(BJ z c),(BN z),(BQ y24 n15),(XP y24 k n b126),(Wh y24 k n n125)]⟩ [] ⟨rfl,rfl,rfl,Af⟩ (.inl rfl) ?_
       refine DV 37 [0,1,2,3,4,5] [(Ak w),(BJ z c),(BN z),(BQ y24 n15),(XP y24 k n b126),(Wh y24 k n n125)] rfl rfl ?_
       refine Dl ?_
       refine BR [1,2,4,5,24,25,26,7,8] [(1,Ac k),(2,pt z),(AZ z),(Bq k n c),(BB b17 o18 y8),(Bg y8),(26,Ac n),(BG n15),(8,pt b126)] ?_
       refine BX [0,1,2,3,5,4] [(Ak w),(BJ z c),(BN z),(BQ y24 n15),(Wh y24 k n n125),(XP y24 k n b126)] rfl rfl ?_
       exact hK ⟨(n129,n125,b126),by first | omega | (dsimp only;omega)⟩
      replace hn123:n15+1≤n122:=hn123
      refine LM (fun x:{p:Nat×Nat×Nat // n122≤p.1∧n122≤p.2.1∧n122≤p.2.2}=>[(1,Ac k),(2,pt z),(AZ z),(Bq k n c),(BB b17 o18 y8),(Bg y8),(26,Ac n),(BG n15),(8,pt x.1.2.1),(O6 y24 k n)]) (fun x=>⟨w,x.1.1,[(Ak w),(BJ z c),(BN z),(BQ y24 n15),(.blk x.1.2.1 (.cells #[i6 0,i6 0,i6 0] 111 (0,0)) true),(.blk x.1.2.2 (.cells #[i6 ((Ae false 419 ⟨(k:Int),(n:Int)⟩).e),i6 ((Ae false 419 ⟨(k:Int),(n:Int)⟩).Ag.First),i6 ((Ae false 419 ⟨(k:Int),(n:Int)⟩).Ag.Second),i6 ((Ae (win y24.AL 82 16384) 420 ⟨(k:Int),(n:Int)⟩).e),i6 ((Ae (win y24.AL 82 16384) 420 ⟨(k:Int),(n:Int)⟩).Ag.First),i6 ((Ae (win y24.AL 82 16384) 420 ⟨(k:Int),(n:Int)⟩).Ag.Second),i6 ((Ae false 422 ⟨(k:Int),(n:Int)⟩).e),i6 ((Ae false 422 ⟨(k:Int),(n:Int)⟩).Ag.First),i6 ((Ae false 422 ⟨(k:Int),(n:Int)⟩).Ag.Second)] 111 (0,0)) true)]⟩) 1 (DC 36 1) ?_ (fun hv134 => ?_)
      ·rintro⟨⟨n131,b132,b133⟩,hb135⟩
       simp only at hb135
       show Wg _ _ [(1,Ac k),(2,pt z),(AZ z),(Bq k n c),(BB b17 o18 y8),(Bg y8),(26,Ac n),(BG n15),(8,pt b132),(O6 y24 k n)] _ ⟨w,n131,[(Ak w),(BJ z c),(BN z),(BQ y24 n15),(bk b132 #[i6 0,i6 0,i6 0] 111),(W9 y24 k n b133)]⟩ _ _ _ _ _ _ _
       refine Bv 36 ?_
       refine BC (an 3 4) [1,2,4,5,24,25,26,7,8] [Qb b132,Qb b132,Qb b132] [(1,Ac k),(2,pt z),(AZ z),(Bq k n c),(BB b17 o18 y8),(Bg y8),(26,Ac n),(BG n15),(8,pt b132)] ⟨w,n131,[(Ak w),(BJ z c),(BN z),(BQ y24 n15),(Xi y24 k n b132),(W9 y24 k n b133)]⟩ [] ⟨rfl,rfl,rfl,Af⟩ (.inl rfl) ?_
       refine DV 37 [0,1,2,3,4,5] [(Ak w),(BJ z c),(BN z),(BQ y24 n15),(Xi y24 k n b132),(W9 y24 k n b133)] rfl rfl ?_
       refine Dl ?_
       refine BR [1,2,4,5,24,25,26,7,8] [(1,Ac k),(2,pt z),(AZ z),(Bq k n c),(BB b17 o18 y8),(Bg y8),(26,Ac n),(BG n15),(8,pt b132)] ?_
       refine BX [0,1,2,3,5,4] [(Ak w),(BJ z c),(BN z),(BQ y24 n15),(W9 y24 k n b133),(Xi y24 k n b132)] rfl rfl ?_
       exact hK ⟨(n131,b133,b132),by first | omega | (dsimp only;omega)⟩
      refine LM (fun x:{p:Nat×Nat×Nat // n122≤p.1∧n122≤p.2.1∧n122≤p.2.2}=>[(1,Ac k),(2,pt z),(AZ z),(Bq k n c),(BB b17 o18 y8),(Bg y8),(26,Ac n),(BG n15),(8,pt x.1.2.1),(64,.slice (some ⟨x.1.2.2,0,none⟩) 3 3)]) (fun x=>⟨w,x.1.1,[(Ak w),(BJ z c),(BN z),(BQ y24 n15),(.blk x.1.2.1 (.cells #[i6 0,i6 0,i6 0] 111 (0,0)) true),(.blk x.1.2.2 (.cells #[i6 ((Ae false 419 ⟨(k:Int),(n:Int)⟩).e),i6 ((Ae false 419 ⟨(k:Int),(n:Int)⟩).Ag.First),i6 ((Ae false 419 ⟨(k:Int),(n:Int)⟩).Ag.Second),i6 ((Ae (win y24.AL 82 16384) 420 ⟨(k:Int),(n:Int)⟩).e),i6 ((Ae (win y24.AL 82 16384) 420 ⟨(k:Int),(n:Int)⟩).Ag.First),i6 ((Ae (win y24.AL 82 16384) 420 ⟨(k:Int),(n:Int)⟩).Ag.Second),i6 ((Ae false 422 ⟨(k:Int),(n:Int)⟩).e),i6 ((Ae false 422 ⟨(k:Int),(n:Int)⟩).Ag.First),i6 ((Ae false 422 ⟨(k:Int),(n:Int)⟩).Ag.Second)] 111 (0,0)) true)]⟩) 2 [true,true,true,true,true,true,true,true,true,true,true,true,true,true,true,true,true,true,true,true,true,true,true,true,true,true,true,true,true,true,true,true,true,true,false,true,false] ?_ (fun hv139 => ?_)
      ·rintro⟨⟨n136,b137,b138⟩,hb140⟩
       simp only at hb140
       show Wg _ _ [(1,Ac k),(2,pt z),(AZ z),(Bq k n c),(BB b17 o18 y8),(Bg y8),(26,Ac n),(BG n15),(8,pt b137),(64,.slice (some ⟨b138,0,none⟩) 3 3)] _ ⟨w,n136,[(Ak w),(BJ z c),(BN z),(BQ y24 n15),(bk b137 #[i6 0,i6 0,i6 0] 111),(bk b138 #[i6 ((Ae false 419 ⟨(k:Int),(n:Int)⟩).e),i6 ((Ae false 419 ⟨(k:Int),(n:Int)⟩).Ag.First),i6 ((Ae false 419 ⟨(k:Int),(n:Int)⟩).Ag.Second),i6 ((Ae (win y24.AL 82 16384) 420 ⟨(k:Int),(n:Int)⟩).e),i6 ((Ae (win y24.AL 82 16384) 420 ⟨(k:Int),(n:Int)⟩).Ag.First),i6 ((Ae (win y24.AL 82 16384) 420 ⟨(k:Int),(n:Int)⟩).Ag.Second),i6 ((Ae false 422 ⟨(k:Int),(n:Int)⟩).e),i6 ((Ae false 422 ⟨(k:Int),(n:Int)⟩).Ag.First),i6 ((Ae false 422 ⟨(k:Int),(n:Int)⟩).Ag.Second)] 111)]⟩ _ _ _ _ _ _ _
       refine Bv 34 ?_
       refine FM 91 #[.slice (some ⟨b138,0,none⟩) 3 3] (some 65) (.agg (Am.arr (Ba [(Ae false 419 ⟨(k:Int),(n:Int)⟩),(Ae (win y24.AL 82 16384) 420 ⟨(k:Int),(n:Int)⟩),(Ae false 422 ⟨(k:Int),(n:Int)⟩)]))) [1,2,4,5,24,25,26,7,8,65] [(1,Ac k),(2,pt z),(AZ z),(Bq k n c),(BB b17 o18 y8),(Bg y8),(26,Ac n),(BG n15),(8,pt b137),(O6 y24 k n)] [0,1,2,3] (fun w141 hw141=>Dp w141 (hL.ext (hw141.ext rfl)) ⟨some ⟨b138,0,none⟩,3,[(Ae false 419 ⟨(k:Int),(n:Int)⟩),(Ae (win y24.AL 82 16384) 420 ⟨(k:Int),(n:Int)⟩),(Ae false 422 ⟨(k:Int),(n:Int)⟩)]⟩ (Eb hw141 (i:=5) [(Ae false 419 ⟨(k:Int),(n:Int)⟩),(Ae (win y24.AL 82 16384) 420 ⟨(k:Int),(n:Int)⟩),(Ae false 422 ⟨(k:Int),(n:Int)⟩)]) (show 3≤1000 by decide)) (fun n142 hn143 => ?_)
       replace hn143:n136≤n142:=hn143
       refine Dt [1,2,4,5,24,25,26,7,8,65] [(1,Ac k),(2,pt z),(AZ z),(Bq k n c),(BB b17 o18 y8),(Bg y8),(26,Ac n),(BG n15),(8,pt b137),(O6 y24 k n)] ?_
       exact hv134 ⟨(n142,b137,b138),by first | omega | (dsimp only;omega)⟩
      refine Io [33,35] ?_
      refine List.forall_mem_cons.2 ⟨?_,List.forall_mem_cons.2 ⟨?_,fun _ h=>absurd h List.not_mem_nil⟩⟩
      ·refine BC o0 [1,2,4,5,24,25,26,7,64] [] [(1,Ac k),(2,pt z),(AZ z),(Bq k n c),(BB b17 o18 y8),(Bg y8),(26,Ac n),(BG n15),(64,.slice (some ⟨n122,0,none⟩) 3 3)] ⟨w,n122+1,[(Ak w),(BJ z c),(BN z),(BQ y24 n15),(Ui y24 k n n122)]⟩ [0,1,2,3] Af (.inr rfl) ?_
       refine Io [34,35] ?_
       refine List.forall_mem_cons.2 ⟨?_,List.forall_mem_cons.2 ⟨?_,fun _ h=>absurd h List.not_mem_nil⟩⟩
       ·refine FM 91 #[.slice (some ⟨n122,0,none⟩) 3 3] (some 65) (.agg (Am.arr (Ba [(Ae false 419 ⟨(k:Int),(n:Int)⟩),(Ae (win y24.AL 82 16384) 420 ⟨(k:Int),(n:Int)⟩),(Ae false 422 ⟨(k:Int),(n:Int)⟩)]))) [1,2,4,5,24,25,26,7,65] [(1,Ac k),(2,pt z),(AZ z),(Bq k n c),(BB b17 o18 y8),(Bg y8),(26,Ac n),(BG n15),(O6 y24 k n)] [0,1,2,3] (fun w144 hw144=>Dp w144 (hL.ext (hw144.ext rfl)) ⟨some ⟨n122,0,none⟩,3,[(Ae false 419 ⟨(k:Int),(n:Int)⟩),(Ae (win y24.AL 82 16384) 420 ⟨(k:Int),(n:Int)⟩),(Ae false 422 ⟨(k:Int),(n:Int)⟩)]⟩ (Eb hw144 (i:=4) [(Ae false 419 ⟨(k:Int),(n:Int)⟩),(Ae (win y24.AL 82 16384) 420 ⟨(k:Int),(n:Int)⟩),(Ae false 422 ⟨(k:Int),(n:Int)⟩)]) (show 3≤1000 by decide)) (fun n145 hn146 => ?_)
        replace hn146:n122+1≤n145:=hn146
        refine Bv 35 ?_
        refine BC o0 [1,2,4,5,24,25,26,7,65,8] [] [(1,Ac k),(2,pt z),(AZ z),(Bq k n c),(BB b17 o18 y8),(Bg y8),(26,Ac n),(BG n15),(O6 y24 k n),(8,pt n145)] ⟨w,n145+1,[(Ak w),(BJ z c),(BN z),(BQ y24 n15),(Ui y24 k n n122),(bk n145 #[i6 0,i6 0,i6 0] 111)]⟩ [0,1,2,3] Af (.inr rfl) ?_
        refine Kq [0,1,2,3,5,4] [(Ak w),(BJ z c),(BN z),(BQ y24 n15),(bk n145 #[i6 0,i6 0,i6 0] 111),(Ui y24 k n n122)] rfl rfl ?_
        refine Dt [1,2,4,5,24,25,26,7,8,65] [(1,Ac k),(2,pt z),(AZ z),(Bq k n c),(BB b17 o18 y8),(Bg y8),(26,Ac n),(BG n15),(8,pt n145),(O6 y24 k n)] ?_
        exact hv134 ⟨(n145+1,n145,n122),by first | omega | (dsimp only;omega)⟩
       refine BC o0 [1,2,4,5,24,25,26,7,64,8] [] [(1,Ac k),(2,pt z),(AZ z),(Bq k n c),(BB b17 o18 y8),(Bg y8),(26,Ac n),(BG n15),(64,.slice (some ⟨n122,0,none⟩) 3 3),(8,pt (n122+1))] ⟨w,n122+2,[(Ak w),(BJ z c),(BN z),(BQ y24 n15),(Ui y24 k n n122),(bk (n122+1) #[i6 0,i6 0,i6 0] 111)]⟩ [0,1,2,3] Af (.inr rfl) ?_
       refine Kq [0,1,2,3,5,4] [(Ak w),(BJ z c),(BN z),(BQ y24 n15),(bk (n122+1) #[i6 0,i6 0,i6 0] 111),(Ui y24 k n n122)] rfl rfl ?_
       refine Dt [1,2,4,5,24,25,26,7,8,64] [(1,Ac k),(2,pt z),(AZ z),(Bq k n c),(BB b17 o18 y8),(Bg y8),(26,Ac n),(BG n15),(8,pt (n122+1)),(64,.slice (some ⟨n122,0,none⟩) 3 3)] ?_
       exact hv139 ⟨(n122+2,n122+1,n122),by first | omega | (dsimp only;omega)⟩
      refine BC o0 [1,2,4,5,24,25,26,7,46,53,63,8] [] [(1,Ac k),(2,pt z),(AZ z),(Bq k n c),(BB b17 o18 y8),(Bg y8),(26,Ac n),(BG n15),(OX k n),(Jz y24 k n),(N7 k n),(8,pt n122)] ⟨w,n122+1,[(Ak w),(BJ z c),(BN z),(BQ y24 n15),(bk n122 #[i6 0,i6 0,i6 0] 111)]⟩ [0,1,2,3] Af (.inr rfl) ?_
      refine Dt [8,1,2,4,5,24,25,26,7,46,53,63] [(8,pt n122),(1,Ac k),(2,pt z),(AZ z),(Bq k n c),(BB b17 o18 y8),(Bg y8),(26,Ac n),(BG n15),(OX k n),(Jz y24 k n),(N7 k n)] ?_
      exact hv124 ⟨(n122+1,n122),by first | omega | (dsimp only;omega)⟩
     rintro⟨⟨n110,b111,b112⟩,hJ147⟩
     simp only at hJ147
     show E _ _ [(1,Ac k),(2,pt z),(AZ z),(Bq k n c),(BB b17 o18 y8),(Bg y8),(26,Ac n),(BG n15),(8,pt b112)] _ ⟨w,n110,[(Ak w),(BJ z c),(BN z),(BQ y24 n15),(bk b111 #[i6 ((Ae false 419 ⟨(k:Int),(n:Int)⟩).e),i6 ((Ae false 419 ⟨(k:Int),(n:Int)⟩).Ag.First),i6 ((Ae false 419 ⟨(k:Int),(n:Int)⟩).Ag.Second),i6 ((Ae (win y24.AL 82 16384) 420 ⟨(k:Int),(n:Int)⟩).e),i6 ((Ae (win y24.AL 82 16384) 420 ⟨(k:Int),(n:Int)⟩).Ag.First),i6 ((Ae (win y24.AL 82 16384) 420 ⟨(k:Int),(n:Int)⟩).Ag.Second),i6 ((Ae false 422 ⟨(k:Int),(n:Int)⟩).e),i6 ((Ae false 422 ⟨(k:Int),(n:Int)⟩).Ag.First),i6 ((Ae false 422 ⟨(k:Int),(n:Int)⟩).Ag.Second)] 111),(WW y24 k n b112)]⟩ _ _ _
     refine BX [0,1,2,3,5] [(Ak w),(BJ z c),(BN z),(BQ y24 n15),(WW y24 k n b112)] rfl rfl ?_
     have e0:gd (F9 c k).xs n=y24:=(by rw[hy24,hy8])
     have eA:GI c k n=(Ba [(Ae false 419 ⟨(k:Int),(n:Int)⟩),(Ae (win y24.AL 82 16384) 420 ⟨(k:Int),(n:Int)⟩),(Ae false 422 ⟨(k:Int),(n:Int)⟩)]):=(by unfold GI UM;simp only[e0];simp[h27,h109])
     refine BR [1,2,4,5,7,8,24,25,26] [(1,Ac k),(2,pt z),(AZ z),(Bq k n c),(BG n15),(8,pt b112),(BB b17 o18 y8),(Bg y8),(26,Ac n)] ?_
     refine Cf (fun a w' hs=>⟨n110,b112,by omega,(by(try dsimp only[WW,BN,BQ,BJ,Jz,N7,OX,OU,BB,Bg,AZ,Kw,Bq,BG]at hs ⊢);rw[eA];exact hs)⟩)
    refine Eo 36 [0,1,2,3] [(Ak w),(BJ z c),(BN z),(BQ y24 n15)] rfl rfl ?_
    refine D6 [(0,o0),(1,(a1 3)),(2,o0),(3,(a1 1)),(4,o0),(5,(ov (i6 ((c.Aa.xs.length:Int) - 1)))),(12,o0),(13,o0),(16,o0),(17,(a1 3)),(19,o0),(20,o0),(23,(an 7 1)),(24,o0),(25,o0),(26,(a1 3)),(29,o0),(30,o0)] [1,2,4,5,24,25,26,7,32,36,43,44,48,50,51,54,55,57,60,61] [Qb n15,Qb z,Wr ((c.Aa.xs.length:Int) - 1) ((c.Aa.xs.length:Int) - 1),Qb n15,Qb z,Qb z,Qb z,Qb z,Qb z,Qb z,Qb z,Qb n15] [true,true,true,true,true,true,false,false,false,false,false,false,true,true,false,false,true,true,false,true,true,false,false,true,true,true,true,false,false,true,true,false,false,false,false,false,false] [(1,Ac k),(2,pt z),(AZ z),(Bq k n c),(BB b17 o18 y8),(Bg y8),(26,Ac n),(BG n15),(32,i6 y24.Partition),(OU c),(43,Ac k),(44,Ac n),(48,i6 y24.AL),(50,Ac k),(51,Ac n),(54,.agg (Aj.arr c)),(55,Ac k),(57,i6 y24.Partition),(60,Ac k),(61,Ac n)] ⟨rfl,rfl,CB,rfl,rfl,rfl,rfl,rfl,rfl,rfl,rfl,rfl,Af⟩ ?_
    refine Oq (fun x:{p:Nat×Nat×Nat // n15+1≤p.1∧n15+1≤p.2.1∧n15+1≤p.2.2}=>([(1,Ac k),(2,pt z),(AZ z),(Bq k n c),(BB b17 o18 y8),(Bg y8),(26,Ac n),(BG n15),(8,pt x.1.2.2)],⟨w,x.1.1,[(Ak w),(BJ z c),(BN z),(BQ y24 n15),(.blk x.1.2.1 (.cells #[i6 ((Ae false 419 ⟨(k:Int),(n:Int)⟩).e),i6 ((Ae false 419 ⟨(k:Int),(n:Int)⟩).Ag.First),i6 ((Ae false 419 ⟨(k:Int),(n:Int)⟩).Ag.Second),i6 ((Ae (win y24.AL 82 16384) 420 ⟨(k:Int),(n:Int)⟩).e),i6 ((Ae (win y24.AL 82 16384) 420 ⟨(k:Int),(n:Int)⟩).Ag.First),i6 ((Ae (win y24.AL 82 16384) 420 ⟨(k:Int),(n:Int)⟩).Ag.Second),i6 ((Ae true 422 ⟨(k:Int),(n:Int)⟩).e),i6 ((Ae true 422 ⟨(k:Int),(n:Int)⟩).Ag.First),i6 ((Ae true 422 ⟨(k:Int),(n:Int)⟩).Ag.Second)] 111 (0,0)) true),(.blk x.1.2.2 (.cells (Am.arr (Ba [(Ae false 419 ⟨(k:Int),(n:Int)⟩),(Ae (win y24.AL 82 16384) 420 ⟨(k:Int),(n:Int)⟩),(Ae true 422 ⟨(k:Int),(n:Int)⟩)])) 111 (0,0)) true)]⟩)) (fun hK => ?_) ?_
    ·refine NR 35 8 [.cl 6 (.bool (win y24.Partition (-1) ((c.Aa.xs.length:Int) - 1))),.tk 7 (ov (.bool false)),.tk 8 o0,.tk 9 o0,.tk 10 o0,.tk 11 o0,.cl 14 (.agg #[(Ac k),Ac n]),.cl 15 (.agg (Am.arr (Ae false 419 ⟨(k:Int),(n:Int)⟩))),.cl 18 (.bool (win y24.AL 82 16384)),.cl 21 (.agg #[(Ac k),Ac n]),.cl 22 (.agg (Am.arr (Ae (win y24.AL 82 16384) 420 ⟨(k:Int),(n:Int)⟩))),.cl 27 (.bool (JI c k y24.Partition)),.tk 28 (ov (.bool true)),.cl 31 (.agg #[(Ac k),Ac n]),.cl 32 (.agg (Am.arr (Ae true 422 ⟨(k:Int),(n:Int)⟩)))] [1,2,4,5,24,25,26,7,46,53,63] [(63,#[i6 y24.Partition,i6 (-1),i6 ((c.Aa.xs.length:Int) - 1)],.bool (win y24.Partition (-1) ((c.Aa.xs.length:Int) - 1))),(96,#[(Ac k),Ac n],.agg #[(Ac k),Ac n]),(62,#[.bool false,i6 419,.agg #[(Ac k),Ac n]],.agg (Am.arr (Ae false 419 ⟨(k:Int),(n:Int)⟩))),(63,#[i6 y24.AL,i6 82,i6 16384],.bool (win y24.AL 82 16384)),(96,#[(Ac k),Ac n],.agg #[(Ac k),Ac n]),(62,#[.bool (win y24.AL 82 16384),i6 420,.agg #[(Ac k),Ac n]],.agg (Am.arr (Ae (win y24.AL 82 16384) 420 ⟨(k:Int),(n:Int)⟩))),(98,#[.agg (Aj.arr c),Ac k,i6 y24.Partition],.bool (JI c k y24.Partition)),(96,#[(Ac k),Ac n],.agg #[(Ac k),Ac n]),(62,#[.bool true,i6 422,.agg #[(Ac k),Ac n]],.agg (Am.arr (Ae true 422 ⟨(k:Int),(n:Int)⟩)))] (DC 33 4) [Value.bool (win y24.Partition (-1) ((c.Aa.xs.length:Int) - 1))=Value.bool false,Value.bool (!(JI c k y24.Partition))=Value.bool true] [(1,Ac k),(2,pt z),(AZ z),(Bq k n c),(BB b17 o18 y8),(Bg y8),(26,Ac n),(BG n15),(OX k n),(Jz y24 k n),(OI k n)] (.cells #[i6 0,i6 0,i6 0] 111 (0,0)) [0,1,2,3] ⟨(congrArg Value.bool (Bool.eq_false_iff.2 h27)),by simp[h109],Af⟩ ⟨fun w151 hw151=>BL w151 y24.Partition (-1) ((c.Aa.xs.length:Int) - 1),fun w152 hw152=>F5 w152 (k:Int) (n:Int),fun w153 hw153=>AY w153 (hL.ext (hw153.ext rfl)) false 419 (k:Int) (n:Int),fun w154 hw154=>BL w154 y24.AL 82 16384,fun w155 hw155=>F5 w155 (k:Int) (n:Int),fun w156 hw156=>AY w156 (hL.ext (hw156.ext rfl)) (win y24.AL 82 16384) 420 (k:Int) (n:Int),fun w157 hw157=>Qj w157 c (hc.ext (hw157.ext rfl) (fun _ h=>h)) k hk y24.Partition,fun w158 hw158=>F5 w158 (k:Int) (n:Int),fun w159 hw159=>AY w159 (hL.ext (hw159.ext rfl)) true 422 (k:Int) (n:Int),Af⟩ ?_ (fun hv162 n160 hn161 => ?_)
     ·rintro⟨⟨n163,b164⟩,hb165⟩
      simp only at hb165
      refine Bv 33 ?_
      refine BC o0 [8,1,2,4,5,24,25,26,7,64] [] [(8,pt b164),(1,Ac k),(2,pt z),(AZ z),(Bq k n c),(BB b17 o18 y8),(Bg y8),(26,Ac n),(BG n15),(64,.slice (some ⟨n163,0,none⟩) 3 3)] ⟨w,n163+1,[(Ak w),(BJ z c),(BN z),(BQ y24 n15),(bk b164 #[i6 0,i6 0,i6 0] 111),(WI y24 k n n163)]⟩ [0,1,2,3] Af (.inr rfl) ?_
      refine Bv 34 ?_
      refine FM 91 #[.slice (some ⟨n163,0,none⟩) 3 3] (some 65) (.agg (Am.arr (Ba [(Ae false 419 ⟨(k:Int),(n:Int)⟩),(Ae (win y24.AL 82 16384) 420 ⟨(k:Int),(n:Int)⟩),(Ae true 422 ⟨(k:Int),(n:Int)⟩)]))) [8,1,2,4,5,24,25,26,7,65] [(8,pt b164),(1,Ac k),(2,pt z),(AZ z),(Bq k n c),(BB b17 o18 y8),(Bg y8),(26,Ac n),(BG n15),(OB y24 k n)] [0,1,2,3] (fun w166 hw166=>Dp w166 (hL.ext (hw166.ext rfl)) ⟨some ⟨n163,0,none⟩,3,[(Ae false 419 ⟨(k:Int),(n:Int)⟩),(Ae (win y24.AL 82 16384) 420 ⟨(k:Int),(n:Int)⟩),(Ae true 422 ⟨(k:Int),(n:Int)⟩)]⟩ (Eb hw166 (i:=5) [(Ae false 419 ⟨(k:Int),(n:Int)⟩),(Ae (win y24.AL 82 16384) 420 ⟨(k:Int),(n:Int)⟩),(Ae true 422 ⟨(k:Int),(n:Int)⟩)]) (show 3≤1000 by decide)) (fun n167 hn168 => ?_)
      replace hn168:n163+1≤n167:=hn168
      refine Bv 36 ?_
      refine BC (an 3 4) [8,1,2,4,5,24,25,26,7] [Qb b164,Qb b164,Qb b164] [(8,pt b164),(1,Ac k),(2,pt z),(AZ z),(Bq k n c),(BB b17 o18 y8),(Bg y8),(26,Ac n),(BG n15)] ⟨w,n167,[(Ak w),(BJ z c),(BN z),(BQ y24 n15),(X3 y24 k n b164),(WI y24 k n n163)]⟩ [] ⟨rfl,rfl,rfl,Af⟩ (.inl rfl) ?_
      refine DV 37 [0,1,2,3,4,5] [(Ak w),(BJ z c),(BN z),(BQ y24 n15),(X3 y24 k n b164),(WI y24 k n n163)] rfl rfl ?_
      refine Dl ?_
      refine BR [1,2,4,5,24,25,26,7,8] [(1,Ac k),(2,pt z),(AZ z),(Bq k n c),(BB b17 o18 y8),(Bg y8),(26,Ac n),(BG n15),(8,pt b164)] ?_
      refine BX [0,1,2,3,5,4] [(Ak w),(BJ z c),(BN z),(BQ y24 n15),(WI y24 k n n163),(X3 y24 k n b164)] rfl rfl ?_
      exact hK ⟨(n167,n163,b164),by first | omega | (dsimp only;omega)⟩
     replace hn161:n15+1≤n160:=hn161
     refine LM (fun x:{p:Nat×Nat×Nat // n160≤p.1∧n160≤p.2.1∧n160≤p.2.2}=>[(1,Ac k),(2,pt z),(AZ z),(Bq k n c),(BB b17 o18 y8),(Bg y8),(26,Ac n),(BG n15),(8,pt x.1.2.1),(OB y24 k n)]) (fun x=>⟨w,x.1.1,[(Ak w),(BJ z c),(BN z),(BQ y24 n15),(.blk x.1.2.1 (.cells #[i6 0,i6 0,i6 0] 111 (0,0)) true),(.blk x.1.2.2 (.cells #[i6 ((Ae false 419 ⟨(k:Int),(n:Int)⟩).e),i6 ((Ae false 419 ⟨(k:Int),(n:Int)⟩).Ag.First),i6 ((Ae false 419 ⟨(k:Int),(n:Int)⟩).Ag.Second),i6 ((Ae (win y24.AL 82 16384) 420 ⟨(k:Int),(n:Int)⟩).e),i6 ((Ae (win y24.AL 82 16384) 420 ⟨(k:Int),(n:Int)⟩).Ag.First),i6 ((Ae (win y24.AL 82 16384) 420 ⟨(k:Int),(n:Int)⟩).Ag.Second),i6 ((Ae true 422 ⟨(k:Int),(n:Int)⟩).e),i6 ((Ae true 422 ⟨(k:Int),(n:Int)⟩).Ag.First),i6 ((Ae true 422 ⟨(k:Int),(n:Int)⟩).Ag.Second)] 111 (0,0)) true)]⟩) 1 (DC 36 1) ?_ (fun hv172 => ?_)
     ·rintro⟨⟨n169,b170,b171⟩,hb173⟩
      simp only at hb173
      show Wg _ _ [(1,Ac k),(2,pt z),(AZ z),(Bq k n c),(BB b17 o18 y8),(Bg y8),(26,Ac n),(BG n15),(8,pt b170),(OB y24 k n)] _ ⟨w,n169,[(Ak w),(BJ z c),(BN z),(BQ y24 n15),(bk b170 #[i6 0,i6 0,i6 0] 111),(UT y24 k n b171)]⟩ _ _ _ _ _ _ _
      refine Bv 36 ?_
      refine BC (an 3 4) [1,2,4,5,24,25,26,7,8] [Qb b170,Qb b170,Qb b170] [(1,Ac k),(2,pt z),(AZ z),(Bq k n c),(BB b17 o18 y8),(Bg y8),(26,Ac n),(BG n15),(8,pt b170)] ⟨w,n169,[(Ak w),(BJ z c),(BN z),(BQ y24 n15),(X8 y24 k n b170),(UT y24 k n b171)]⟩ [] ⟨rfl,rfl,rfl,Af⟩ (.inl rfl) ?_
      refine DV 37 [0,1,2,3,4,5] [(Ak w),(BJ z c),(BN z),(BQ y24 n15),(X8 y24 k n b170),(UT y24 k n b171)] rfl rfl ?_
      refine Dl ?_
      refine BR [1,2,4,5,24,25,26,7,8] [(1,Ac k),(2,pt z),(AZ z),(Bq k n c),(BB b17 o18 y8),(Bg y8),(26,Ac n),(BG n15),(8,pt b170)] ?_
      refine BX [0,1,2,3,5,4] [(Ak w),(BJ z c),(BN z),(BQ y24 n15),(UT y24 k n b171),(X8 y24 k n b170)] rfl rfl ?_
      exact hK ⟨(n169,b171,b170),by first | omega | (dsimp only;omega)⟩
     refine LM (fun x:{p:Nat×Nat×Nat // n160≤p.1∧n160≤p.2.1∧n160≤p.2.2}=>[(1,Ac k),(2,pt z),(AZ z),(Bq k n c),(BB b17 o18 y8),(Bg y8),(26,Ac n),(BG n15),(8,pt x.1.2.1),(64,.slice (some ⟨x.1.2.2,0,none⟩) 3 3)]) (fun x=>⟨w,x.1.1,[(Ak w),(BJ z c),(BN z),(BQ y24 n15),(.blk x.1.2.1 (.cells #[i6 0,i6 0,i6 0] 111 (0,0)) true),(.blk x.1.2.2 (.cells #[i6 ((Ae false 419 ⟨(k:Int),(n:Int)⟩).e),i6 ((Ae false 419 ⟨(k:Int),(n:Int)⟩).Ag.First),i6 ((Ae false 419 ⟨(k:Int),(n:Int)⟩).Ag.Second),i6 ((Ae (win y24.AL 82 16384) 420 ⟨(k:Int),(n:Int)⟩).e),i6 ((Ae (win y24.AL 82 16384) 420 ⟨(k:Int),(n:Int)⟩).Ag.First),i6 ((Ae (win y24.AL 82 16384) 420 ⟨(k:Int),(n:Int)⟩).Ag.Second),i6 ((Ae true 422 ⟨(k:Int),(n:Int)⟩).e),i6 ((Ae true 422 ⟨(k:Int),(n:Int)⟩).Ag.First),i6 ((Ae true 422 ⟨(k:Int),(n:Int)⟩).Ag.Second)] 111 (0,0)) true)]⟩) 2 [true,true,true,true,true,true,true,true,true,true,true,true,true,true,true,true,true,true,true,true,true,true,true,true,true,true,true,true,true,true,true,true,true,true,false,true,false] ?_ (fun hv177 => ?_)
     ·rintro⟨⟨n174,b175,b176⟩,hb178⟩
      simp only at hb178
      show Wg _ _ [(1,Ac k),(2,pt z),(AZ z),(Bq k n c),(BB b17 o18 y8),(Bg y8),(26,Ac n),(BG n15),(8,pt b175),(64,.slice (some ⟨b176,0,none⟩) 3 3)] _ ⟨w,n174,[(Ak w),(BJ z c),(BN z),(BQ y24 n15),(bk b175 #[i6 0,i6 0,i6 0] 111),(bk b176 #[i6 ((Ae false 419 ⟨(k:Int),(n:Int)⟩).e),i6 ((Ae false 419 ⟨(k:Int),(n:Int)⟩).Ag.First),i6 ((Ae false 419 ⟨(k:Int),(n:Int)⟩).Ag.Second),i6 ((Ae (win y24.AL 82 16384) 420 ⟨(k:Int),(n:Int)⟩).e),i6 ((Ae (win y24.AL 82 16384) 420 ⟨(k:Int),(n:Int)⟩).Ag.First),i6 ((Ae (win y24.AL 82 16384) 420 ⟨(k:Int),(n:Int)⟩).Ag.Second),i6 ((Ae true 422 ⟨(k:Int),(n:Int)⟩).e),i6 ((Ae true 422 ⟨(k:Int),(n:Int)⟩).Ag.First),i6 ((Ae true 422 ⟨(k:Int),(n:Int)⟩).Ag.Second)] 111)]⟩ _ _ _ _ _ _ _
      refine Bv 34 ?_
      refine FM 91 #[.slice (some ⟨b176,0,none⟩) 3 3] (some 65) (.agg (Am.arr (Ba [(Ae false 419 ⟨(k:Int),(n:Int)⟩),(Ae (win y24.AL 82 16384) 420 ⟨(k:Int),(n:Int)⟩),(Ae true 422 ⟨(k:Int),(n:Int)⟩)]))) [1,2,4,5,24,25,26,7,8,65] [(1,Ac k),(2,pt z),(AZ z),(Bq k n c),(BB b17 o18 y8),(Bg y8),(26,Ac n),(BG n15),(8,pt b175),(OB y24 k n)] [0,1,2,3] (fun w179 hw179=>Dp w179 (hL.ext (hw179.ext rfl)) ⟨some ⟨b176,0,none⟩,3,[(Ae false 419 ⟨(k:Int),(n:Int)⟩),(Ae (win y24.AL 82 16384) 420 ⟨(k:Int),(n:Int)⟩),(Ae true 422 ⟨(k:Int),(n:Int)⟩)]⟩ (Eb hw179 (i:=5) [(Ae false 419 ⟨(k:Int),(n:Int)⟩),(Ae (win y24.AL 82 16384) 420 ⟨(k:Int),(n:Int)⟩),(Ae true 422 ⟨(k:Int),(n:Int)⟩)]) (show 3≤1000 by decide)) (fun n180 hn181 => ?_)
      replace hn181:n174≤n180:=hn181
      refine Dt [1,2,4,5,24,25,26,7,8,65] [(1,Ac k),(2,pt z),(AZ z),(Bq k n c),(BB b17 o18 y8),(Bg y8),(26,Ac n),(BG n15),(8,pt b175),(OB y24 k n)] ?_
      exact hv172 ⟨(n180,b175,b176),by first | omega | (dsimp only;omega)⟩
     refine Io [33,35] ?_
     refine List.forall_mem_cons.2 ⟨?_,List.forall_mem_cons.2 ⟨?_,fun _ h=>absurd h List.not_mem_nil⟩⟩
     ·refine BC o0 [1,2,4,5,24,25,26,7,64] [] [(1,Ac k),(2,pt z),(AZ z),(Bq k n c),(BB b17 o18 y8),(Bg y8),(26,Ac n),(BG n15),(64,.slice (some ⟨n160,0,none⟩) 3 3)] ⟨w,n160+1,[(Ak w),(BJ z c),(BN z),(BQ y24 n15),(SV y24 k n n160)]⟩ [0,1,2,3] Af (.inr rfl) ?_
      refine Io [34,35] ?_
      refine List.forall_mem_cons.2 ⟨?_,List.forall_mem_cons.2 ⟨?_,fun _ h=>absurd h List.not_mem_nil⟩⟩
      ·refine FM 91 #[.slice (some ⟨n160,0,none⟩) 3 3] (some 65) (.agg (Am.arr (Ba [(Ae false 419 ⟨(k:Int),(n:Int)⟩),(Ae (win y24.AL 82 16384) 420 ⟨(k:Int),(n:Int)⟩),(Ae true 422 ⟨(k:Int),(n:Int)⟩)]))) [1,2,4,5,24,25,26,7,65] [(1,Ac k),(2,pt z),(AZ z),(Bq k n c),(BB b17 o18 y8),(Bg y8),(26,Ac n),(BG n15),(OB y24 k n)] [0,1,2,3] (fun w182 hw182=>Dp w182 (hL.ext (hw182.ext rfl)) ⟨some ⟨n160,0,none⟩,3,[(Ae false 419 ⟨(k:Int),(n:Int)⟩),(Ae (win y24.AL 82 16384) 420 ⟨(k:Int),(n:Int)⟩),(Ae true 422 ⟨(k:Int),(n:Int)⟩)]⟩ (Eb hw182 (i:=4) [(Ae false 419 ⟨(k:Int),(n:Int)⟩),(Ae (win y24.AL 82 16384) 420 ⟨(k:Int),(n:Int)⟩),(Ae true 422 ⟨(k:Int),(n:Int)⟩)]) (show 3≤1000 by decide)) (fun n183 hn184 => ?_)
       replace hn184:n160+1≤n183:=hn184
       refine Bv 35 ?_
       refine BC o0 [1,2,4,5,24,25,26,7,65,8] [] [(1,Ac k),(2,pt z),(AZ z),(Bq k n c),(BB b17 o18 y8),(Bg y8),(26,Ac n),(BG n15),(OB y24 k n),(8,pt n183)] ⟨w,n183+1,[(Ak w),(BJ z c),(BN z),(BQ y24 n15),(SV y24 k n n160),(bk n183 #[i6 0,i6 0,i6 0] 111)]⟩ [0,1,2,3] Af (.inr rfl) ?_
       refine Kq [0,1,2,3,5,4] [(Ak w),(BJ z c),(BN z),(BQ y24 n15),(bk n183 #[i6 0,i6 0,i6 0] 111),(SV y24 k n n160)] rfl rfl ?_
       refine Dt [1,2,4,5,24,25,26,7,8,65] [(1,Ac k),(2,pt z),(AZ z),(Bq k n c),(BB b17 o18 y8),(Bg y8),(26,Ac n),(BG n15),(8,pt n183),(OB y24 k n)] ?_
       exact hv172 ⟨(n183+1,n183,n160),by first | omega | (dsimp only;omega)⟩
      refine BC o0 [1,2,4,5,24,25,26,7,64,8] [] [(1,Ac k),(2,pt z),(AZ z),(Bq k n c),(BB b17 o18 y8),(Bg y8),(26,Ac n),(BG n15),(64,.slice (some ⟨n160,0,none⟩) 3 3),(8,pt (n160+1))] ⟨w,n160+2,[(Ak w),(BJ z c),(BN z),(BQ y24 n15),(SV y24 k n n160),(bk (n160+1) #[i6 0,i6 0,i6 0] 111)]⟩ [0,1,2,3] Af (.inr rfl) ?_
      refine Kq [0,1,2,3,5,4] [(Ak w),(BJ z c),(BN z),(BQ y24 n15),(bk (n160+1) #[i6 0,i6 0,i6 0] 111),(SV y24 k n n160)] rfl rfl ?_
      refine Dt [1,2,4,5,24,25,26,7,8,64] [(1,Ac k),(2,pt z),(AZ z),(Bq k n c),(BB b17 o18 y8),(Bg y8),(26,Ac n),(BG n15),(8,pt (n160+1)),(64,.slice (some ⟨n160,0,none⟩) 3 3)] ?_
      exact hv177 ⟨(n160+2,n160+1,n160),by first | omega | (dsimp only;omega)⟩
     refine BC o0 [1,2,4,5,24,25,26,7,46,53,63,8] [] [(1,Ac k),(2,pt z),(AZ z),(Bq k n c),(BB b17 o18 y8),(Bg y8),(26,Ac n),(BG n15),(OX k n),(Jz y24 k n),(OI k n),(8,pt n160)] ⟨w,n160+1,[(Ak w),(BJ z c),(BN z),(BQ y24 n15),(bk n160 #[i6 0,i6 0,i6 0] 111)]⟩ [0,1,2,3] Af (.inr rfl) ?_
     refine Dt [8,1,2,4,5,24,25,26,7,46,53,63] [(8,pt n160),(1,Ac k),(2,pt z),(AZ z),(Bq k n c),(BB b17 o18 y8),(Bg y8),(26,Ac n),(BG n15),(OX k n),(Jz y24 k n),(OI k n)] ?_
     exact hv162 ⟨(n160+1,n160),by first | omega | (dsimp only;omega)⟩
    rintro⟨⟨n148,b149,b150⟩,hJ185⟩
    simp only at hJ185
    show E _ _ [(1,Ac k),(2,pt z),(AZ z),(Bq k n c),(BB b17 o18 y8),(Bg y8),(26,Ac n),(BG n15),(8,pt b150)] _ ⟨w,n148,[(Ak w),(BJ z c),(BN z),(BQ y24 n15),(bk b149 #[i6 ((Ae false 419 ⟨(k:Int),(n:Int)⟩).e),i6 ((Ae false 419 ⟨(k:Int),(n:Int)⟩).Ag.First),i6 ((Ae false 419 ⟨(k:Int),(n:Int)⟩).Ag.Second),i6 ((Ae (win y24.AL 82 16384) 420 ⟨(k:Int),(n:Int)⟩).e),i6 ((Ae (win y24.AL 82 16384) 420 ⟨(k:Int),(n:Int)⟩).Ag.First),i6 ((Ae (win y24.AL 82 16384) 420 ⟨(k:Int),(n:Int)⟩).Ag.Second),i6 ((Ae true 422 ⟨(k:Int),(n:Int)⟩).e),i6 ((Ae true 422 ⟨(k:Int),(n:Int)⟩).Ag.First),i6 ((Ae true 422 ⟨(k:Int),(n:Int)⟩).Ag.Second)] 111),(XC y24 k n b150)]⟩ _ _ _
    refine BX [0,1,2,3,5] [(Ak w),(BJ z c),(BN z),(BQ y24 n15),(XC y24 k n b150)] rfl rfl ?_
    have e0:gd (F9 c k).xs n=y24:=(by rw[hy24,hy8])
    have eA:GI c k n=(Ba [(Ae false 419 ⟨(k:Int),(n:Int)⟩),(Ae (win y24.AL 82 16384) 420 ⟨(k:Int),(n:Int)⟩),(Ae true 422 ⟨(k:Int),(n:Int)⟩)]):=(by unfold GI UM;simp only[e0];simp[h27,h109])
    refine BR [1,2,4,5,7,8,24,25,26] [(1,Ac k),(2,pt z),(AZ z),(Bq k n c),(BG n15),(8,pt b150),(BB b17 o18 y8),(Bg y8),(26,Ac n)] ?_
    refine Cf (fun a w' hs=>⟨n148,b150,by omega,(by(try dsimp only[XC,BN,BQ,BJ,Jz,N7,OX,OI,OU,BB,Bg,AZ,Kw,Bq,BG]at hs ⊢);rw[eA];exact hs)⟩)
   rintro a w' ⟨n25,b8,hn26,hs⟩
   refine(?_:G Tryd.prog 85 [(1,Ac k),(2,pt z),(AZ z),(Bq k n c),(BG n15),(8,pt b8),(BB b17 o18 y8),(Bg y8),(26,Ac n)] [] ⟨w,n25,[(Ak w),(BJ z c),(BN z),(BQ y24 n15),(bk b8 (Am.arr (GI c k n)) 111)]⟩ _ _ _) a w' hs
   clear hs a w'
   refine DW <| DW ?_
   by_cases h186:(((GI c k n).e:Int)==(0:Int)&&((((GI c k n).Ag.First:Int)==(0:Int)&&(((GI c k n).Ag.Second:Int)==(0:Int)&&true))&&true))=true
   ·have hbd0:=Ws (F7.1 h186);rw[show gd (F9 c k).xs n=y24 from(by rw[hy24,hy8])]at hbd0
    refine Az 12 0 [0] [[(an 3 4),(oa [.via 0 (i6 0),.via 0 (i6 0),.via 0 (i6 0)]),⟨.seq true,none⟩],[o0,o0,(a1 3),o0,(a1 3),(ov (i6 (y24.BO+y24.AL))),(ov (i6 ((sumW (F9 c k).xs n)+(y24.BO+y24.AL)))),o0],[(ov (i6 ((n+1:Nat):Int))),o0]] [Qb b8,Qb b8,Qb b8,Old w 0 0 (i6 0),Old w 0 1 (i6 0),Old w 0 2 (i6 0),(((GI c k n).e:Int)==(0:Int)&&((((GI c k n).Ag.First:Int)==(0:Int)&&(((GI c k n).Ag.Second:Int)==(0:Int)&&true))&&true))=true,Qb n15,Qb n15,Wr ((y24.BO:Int)+y24.AL) (y24.BO+y24.AL),Wr ((sumW (F9 c k).xs n:Int)+(y24.BO+y24.AL)) ((sumW (F9 c k).xs n)+(y24.BO+y24.AL)),Wr ((n:Int)+1) (((n+1:Nat):Int))] [(1,Ac k),(2,pt z),(AZ z),(5,i6 ((sumW (F9 c k).xs n)+(y24.BO+y24.AL))),(BB b17 o18 y8),(Bg y8),(26,i6 ((n+1:Nat):Int))] rfl ⟨rfl,rfl,rfl,Aw (hL.2 0 _ rfl),Aw (hL.2 1 _ rfl),Aw (hL.2 2 _ rfl),h186,rfl,rfl,CB,CB,CB,Af⟩ ?_
    refine BX [0,1,2] [(Ak w),(BJ z c),(BN z)] rfl rfl ?_
    have e0:gd (F9 c k).xs n=y24:=(by rw[hy24,hy8])
    have hnn:=F7.1 h186
    have hbd:=Ws hnn
    have eS:=ZaI (F9 c k).xs n
    rw[e0]at hbd eS
    have hss:0≤sumW (F9 c k).xs (n+1)∧sumW (F9 c k).xs (n+1)≤((n+1:Nat):Int)*32768:=(by rw[eS];omega)
    refine FT [1,2,4,5,24,25,26] [(1,Ac k),(2,pt z),(AZ z),(5,i6 ((sumW (F9 c k).xs n)+(y24.BO+y24.AL))),(Kw y8),(Bg y8),(26,i6 ((n+1:Nat):Int))] (by(try dsimp only[BN,BQ,BJ,BB,Bg,AZ,Kw,Bq,BG]);simp only[ha19];rfl) ?_
    refine Cf (fun a w' hs=>⟨y8.xs.length - (n+1),by omega,n25,(n+1),rfl,by omega,by omega,Ha hf hnn,hss,(by(try dsimp only[BN,BQ,BJ,BB,Bg,AZ,Kw,Bq,BG]at hs ⊢);rw[eS];exact hs)⟩)
   refine q_c 9 0 [1] [[(an 3 4),(oa [.via 0 (i6 0),.via 0 (i6 0),.via 0 (i6 0)]),⟨.seq false,none⟩],[(an 3 4),(an 3 2)]] [Qb b8,Qb b8,Qb b8,Old w 0 0 (i6 0),Old w 0 1 (i6 0),Old w 0 2 (i6 0),(((GI c k n).e:Int)==(0:Int)&&((((GI c k n).Ag.First:Int)==(0:Int)&&(((GI c k n).Ag.Second:Int)==(0:Int)&&true))&&true))=false,Qb b8,Qb b8,Qb b8,Qb (z+1),Qb (z+1),Qb (z+1)] [(AZ z)] ⟨w,n25,[(Ak w),(BJ z c),(bk (z+1) (Am.arr (GI c k n)) 111),(BQ y24 n15),(bk b8 (Am.arr (GI c k n)) 111)]⟩ rfl ⟨rfl,rfl,rfl,Aw (hL.2 0 _ rfl),Aw (hL.2 1 _ rfl),Aw (hL.2 2 _ rfl),(Bool.eq_false_iff.2 h186),rfl,rfl,rfl,rfl,rfl,rfl,Af⟩ ?_
   refine AO [.at 2,.at 2,.at 2] [Qb (z+1),Qb (z+1),Qb (z+1)] (.agg #[i6 ((GI c k n).e),i6 ((GI c k n).Ag.First),i6 ((GI c k n).Ag.Second)]) ⟨rfl,rfl,rfl,Af⟩ ?_
   intro w187 hw187
   exact⟨congrArg (fun t=>Ending.returned (Value.agg (Am.arr t))) (coreQ_b (by have e1:F9 c k=y8:=hy8.symm;rw[e1];exact h12) hf (by have e1:F9 c k=y8:=hy8.symm;rw[e1];omega) (fun e=>h186 (F7.2 e))).symm,Bi hw187⟩
  refine Az 11 0 [0] [[oF]] [BF ((n:Int)<(y8.xs.length:Int))] [(1,Ac k),(2,pt z),(AZ z),(Bq k n c),(Kw y8),(Bg y8),(26,Ac n),(27,.bool false)] rfl ⟨bf,Af⟩ ?_
  by_cases h188:(sumW (F9 c k).xs n:Int)=c.Il
  ·refine Eo 7 [0,1,2] [(Ak w),(BJ z c),(BN z)] rfl rfl ?_
   refine JZ [.tk 0 o0,.tk 1 o0,.tk 2 (a1 1),.tk 3 oT,.tk 4 o0,.cl 5 (.agg #[(Ac k),i6 (-1)]),.cl 6 (.agg (Am.arr (Ae true 421 ⟨(k:Int), -1⟩)))] [4,84] [(93,#[(Ac k)],.agg #[(Ac k),i6 (-1)]),(62,#[.bool true,i6 421,.agg #[(Ac k),i6 (-1)]],.agg (Am.arr (Ae true 421 ⟨(k:Int), -1⟩)))] (DC 7 1) [Qb z,ET (sumW (F9 c k).xs n) c.Il] [(AZ z),(84,.agg (Am.arr (Ae true 421 ⟨(k:Int), -1⟩)))] [0,1,2] ⟨rfl,et,Af⟩ ⟨fun w189 hw189=>Dh w189 (k:Int),fun w190 hw190=>AY w190 (hL.ext (hw190.ext rfl)) true 421 (k:Int) (-1),Af⟩ (fun n191 hn192 => ?_)
   replace hn192:n15≤n191:=hn192
   refine Bv 7 ?_
   refine BC (an 3 2) [4] [Qb (z+1),Qb (z+1),Qb (z+1)] [(AZ z)] ⟨w,n191,[(Ak w),(BJ z c),(.blk (z+1) (.cells (Am.arr (Ae true 421 ⟨(k:Int), -1⟩)) 111 (0,0)) true)]⟩ [] ⟨rfl,rfl,rfl,Af⟩ (.inl rfl) ?_
   refine DV 8 [0,1,2] [(Ak w),(BJ z c),(.blk (z+1) (.cells (Am.arr (Ae true 421 ⟨(k:Int), -1⟩)) 111 (0,0)) true)] rfl rfl ?_
   refine Dl ?_
   refine BR [4] [(AZ z)] ?_
   refine IV <| KP <| AO [.at 2,.at 2,.at 2] [Qb (z+1),Qb (z+1),Qb (z+1)] (.agg #[i6 ((Ae true 421 ⟨(k:Int), -1⟩).e),i6 ((Ae true 421 ⟨(k:Int), -1⟩).Ag.First),i6 ((Ae true 421 ⟨(k:Int), -1⟩).Ag.Second)]) ⟨rfl,rfl,rfl,Af⟩ ?_
   intro w193 hw193
   exact⟨congrArg (fun t=>Ending.returned (Value.agg (Am.arr t))) ((Zw (by have e1:F9 c k=y8:=hy8.symm;rw[e1];exact h12) hf (by have e1:F9 c k=y8:=hy8.symm;rw[e1];omega)).trans (by first | rw[decide_eq_true (by assumption)] | rw[decide_eq_false (by assumption)])).symm,Bi hw193⟩
  refine Eo 7 [0,1,2] [(Ak w),(BJ z c),(BN z)] rfl rfl ?_
  refine JZ [.tk 0 o0,.tk 1 o0,.tk 2 (a1 1),.tk 3 oF,.tk 4 o0,.cl 5 (.agg #[(Ac k),i6 (-1)]),.cl 6 (.agg (Am.arr (Ae false 421 ⟨(k:Int), -1⟩)))] [4,84] [(93,#[(Ac k)],.agg #[(Ac k),i6 (-1)]),(62,#[.bool false,i6 421,.agg #[(Ac k),i6 (-1)]],.agg (Am.arr (Ae false 421 ⟨(k:Int), -1⟩)))] (DC 7 1) [Qb z,EF (sumW (F9 c k).xs n) c.Il] [(AZ z),(84,.agg (Am.arr (Ae false 421 ⟨(k:Int), -1⟩)))] [0,1,2] ⟨rfl,ef,Af⟩ ⟨fun w194 hw194=>Dh w194 (k:Int),fun w195 hw195=>AY w195 (hL.ext (hw195.ext rfl)) false 421 (k:Int) (-1),Af⟩ (fun n196 hn197 => ?_)
  replace hn197:n15≤n196:=hn197
  refine Bv 7 ?_
  refine BC (an 3 2) [4] [Qb (z+1),Qb (z+1),Qb (z+1)] [(AZ z)] ⟨w,n196,[(Ak w),(BJ z c),(.blk (z+1) (.cells (Am.arr (Ae false 421 ⟨(k:Int), -1⟩)) 111 (0,0)) true)]⟩ [] ⟨rfl,rfl,rfl,Af⟩ (.inl rfl) ?_
  refine DV 8 [0,1,2] [(Ak w),(BJ z c),(.blk (z+1) (.cells (Am.arr (Ae false 421 ⟨(k:Int), -1⟩)) 111 (0,0)) true)] rfl rfl ?_
  refine Dl ?_
  refine BR [4] [(AZ z)] ?_
  refine IV <| KP <| AO [.at 2,.at 2,.at 2] [Qb (z+1),Qb (z+1),Qb (z+1)] (.agg #[i6 ((Ae false 421 ⟨(k:Int), -1⟩).e),i6 ((Ae false 421 ⟨(k:Int), -1⟩).Ag.First),i6 ((Ae false 421 ⟨(k:Int), -1⟩).Ag.Second)]) ⟨rfl,rfl,rfl,Af⟩ ?_
  intro w198 hw198
  exact⟨congrArg (fun t=>Ending.returned (Value.agg (Am.arr t))) ((Zw (by have e1:F9 c k=y8:=hy8.symm;rw[e1];exact h12) hf (by have e1:F9 c k=y8:=hy8.symm;rw[e1];omega)).trans (by first | rw[decide_eq_true (by assumption)] | rw[decide_eq_false (by assumption)])).symm,Bi hw198⟩
 have hd199:=Ko h12
 refine Cc 5 1 [1] [[(ov (.bool true))],[o0]] [Value.bool (!(win (y8.xs.length:Int) 1 16))=Value.bool true] [(AZ z),(17,Ac k)] rfl ⟨by simp[h12],Af⟩ ?_
 refine BI 93 #[(Ac k)] (some 18) (.agg #[(Ac k),i6 (-1)]) (fun w200 hw200=>Dh w200 (k:Int)) (fun n201 (hn202:n10≤n201) => ?_)
 refine Gi 3 0 [] [[o0,(an 3 2)]] [Qb (z+1),Qb (z+1),Qb (z+1)] [(AZ z)] ⟨w,n201,[(Ak w),(BJ z c),(bk (z+1) #[i6 418,Ac k,i6 (-1)] 111)]⟩ rfl ⟨rfl,rfl,rfl,Af⟩ ?_
 refine AO [.at 2,.at 2,.at 2] [Qb (z+1),Qb (z+1),Qb (z+1)] (.agg #[i6 418,Ac k,i6 (-1)]) ⟨rfl,rfl,rfl,Af⟩ ?_
 intro w203 hw203
 exact⟨congrArg (fun t=>Ending.returned (Value.agg (Am.arr t))) (coreQ_a (by have e1:F9 c k=y8:=hy8.symm;rw[e1];exact h12)).symm,Bi hw203⟩
end Go.Proofs.YtjdmhijaanmccaaDoor.Ad
namespace Go.Proofs.YtjdmhijaanmccaaDoor.Ly
open Go Go.Proofs.YtjdmhijaanmccaaDoor.Eng Go.Proofs.YtjdmhijaanmccaaDoor.Mem
set_option linter.unusedSimpArgs false
set_option linter.unusedVariables false
set_option maxRecDepth 100000
def Jo(g:BD):Bool:=decide (0≤g.BP∧g.BP≤256∧1≤g.BH∧g.BH≤256 - g.BP)
def PL(n:Nat)(q:DK):Bool:=decide (0≤q.Channel∧q.Channel<n)
def DI(n:Nat)(x:Aq):Bool:=decide (x.Ai.xs.length≤8)&&decide (x.Ar.xs.length≤8)&&x.Ai.xs.all Jo&&x.Ar.xs.all (PL n)
theorem Md{α:Type}[Inhabited α]{p:α→Bool}{xs:List α}{k:Nat}(hk:k<xs.length)(h:p (gd xs k)=false):xs.all p=false:=by
 rw[List.all_eq_false]
 refine⟨xs[k],List.getElem_mem hk, ?_⟩
 rw[F8 hk]at h
 simpa using h
theorem SB{α:Type}[Inhabited α]{p:α→Bool}{xs:List α}(h:∀ i,i<xs.length→p (gd xs i)=true):xs.all p=true:=by
 rw[List.all_eq_true]
 intro y hy
 obtain⟨i,hi,rfl⟩:=List.getElem_of_mem hy
 have:=h i hi
 rwa [F8 hi]at this
theorem upto{p:Nat→Prop}{k:Nat}(h:∀ i,i<k→p i)(hk:p k):∀ i,i<k+1→p i:=fun i hi=>by
 by_cases e:i=k
 ·subst e;exact hk
 exact h i (by omega)
section
variable (z:Nat)(x:Aq)(c:Aj)(b8 o9:Nat)
abbrev JA:=bk (z+1) (Aq.arr x) 52
abbrev JD:=bk z (Aj.arr c) 26
abbrev Nh:Dc:=(20,.slice (some ⟨b8,o9,none⟩) x.Ai.xs.length x.Ai.cap)
abbrev Lm:Dc:=(20,.slice x.Ai.a x.Ai.xs.length x.Ai.cap)
abbrev MN:Dc:=(49,.slice x.Ar.a x.Ar.xs.length x.Ar.cap)
abbrev JG:=(21,Ac x.Ai.xs.length)
abbrev KI:=(50,Ac x.Ar.xs.length)
abbrev JE:=(3,pt (z+1))
end
theorem P5(w:World)(c:Aj)(x:Aq)(hc:Aj.ok Any w c)(hx:Aq.ok Any w x):Calls Tryd.prog 76 #[.agg (Aj.arr c),.agg (Aq.arr x)] w fun e w'=>e = .returned (.bool (DI c.Ah.xs.length x))∧CZ (fun _=>False) w w':=by
 obtain⟨z,hz⟩:∃ z,z=w.heap.size:=⟨_,rfl⟩
 refine Cb (args:=[.agg (Aj.arr c),.agg (Aq.arr x)]) 67 ⟨w,z,[(Ak w)]⟩ Tryd.func76 rfl (by kernel_rfl) (by kernel_rfl) (ES hz) ?_
 refine Ee [0,1] [(0,.agg (Aj.arr c)),(1,.agg (Aq.arr x))] ?_
 refine q_c 6 0 [] [[o0,o0,o0]] [] [(2,pt z),(JE z)] ⟨w,z+2,[(Ak w),(JD z c),(JA z x)]⟩ rfl Af ?_
 by_cases h1:(8:Int)<(x.Ai.xs.length:Int)
 ·refine Az 9 0 [1] [[o0,(a1 2),o0,oT,o0,o0],[o0]] [Qb (z+1),BT ((x.Ai.xs.length:Int) > 8)] [(4,.bool false)] rfl ⟨rfl,bt,Af⟩ ?_
  refine AO [] [] (.bool false) Af ?_
  intro w2 hw2
  refine⟨congrArg (fun b=>Ending.returned (Value.bool b)) (Eq.symm (?_:DI c.Ah.xs.length x=false)),Bi hw2⟩
  unfold DI
  first
   | (have e1:decide (x.Ai.xs.length≤8)=false:=decide_eq_false (by omega));simp[e1]
   | (have e1:decide (x.Ar.xs.length≤8)=false:=decide_eq_false (by omega));simp[e1]
 by_cases h3:(8:Int)<(x.Ar.xs.length:Int)
 ·refine Az 9 0 [1] [[o0,(a1 2),o0,oF,o0,o0,(a1 2),o0,oT,o0],[o0]] [Qb (z+1),BF ((x.Ai.xs.length:Int) > 8),Qb (z+1),BT ((x.Ar.xs.length:Int) > 8)] [(4,.bool false)] rfl ⟨rfl,bf,rfl,bt,Af⟩ ?_
  refine AO [] [] (.bool false) Af ?_
  intro w4 hw4
  refine⟨congrArg (fun b=>Ending.returned (Value.bool b)) (Eq.symm (?_:DI c.Ah.xs.length x=false)),Bi hw4⟩
  unfold DI
  first
   | (have e1:decide (x.Ai.xs.length≤8)=false:=decide_eq_false (by omega));simp[e1]
   | (have e1:decide (x.Ar.xs.length≤8)=false:=decide_eq_false (by omega));simp[e1]
 refine Az 12 0 [0] [[o0,(a1 2),o0,oF,o0,o0,(a1 2),o0,oF,o0],[o0,(a1 2),o0,o0]] [Qb (z+1),BF ((x.Ai.xs.length:Int) > 8),Qb (z+1),BF ((x.Ar.xs.length:Int) > 8),Qb (z+1)] [(2,pt z),(JE z),(Lm x),(JG x),(22,i6 0)] rfl ⟨rfl,bf,rfl,bf,rfl,Af⟩ ?_
 refine DY (fun m a w'=>∃ (n6:Nat) (k:Nat),m=x.Ai.xs.length - k∧z+2≤n6∧(k≤x.Ai.xs.length)∧(∀ i,i<k→Jo (gd x.Ai.xs i)=true)∧St 67 [(2,pt z),(JE z),(Lm x),(JG x),(22,Ac k)] [] ⟨w,n6,[(Ak w),(JD z c),(JA z x)]⟩ a w') (x.Ai.xs.length - 0) ?_ ?_
 ·intro a w' hs;exact⟨(z+2),0,rfl,Nat.le_refl _,Nat.zero_le _,fun i hi=>absurd hi (Nat.not_lt_zero i),hs⟩
 rintro m a w' ⟨n6,k,rfl,hn5,hkk,hr,hs⟩
 refine(?_:G Tryd.prog 67 [(2,pt z),(JE z),(Lm x),(JG x),(22,Ac k)] [] ⟨w,n6,[(Ak w),(JD z c),(JA z x)]⟩ _ _ _) a w' hs
 clear hs a w'
 refine DW ?_
 by_cases h7:(k:Int)<(x.Ai.xs.length:Int)
 ·refine Az 10 0 [1] [[oT]] [BT ((k:Int)<(x.Ai.xs.length:Int))] [(2,pt z),(JE z),(Lm x),(JG x),(22,Ac k),(23,.bool true)] rfl ⟨bt,Af⟩ ?_
  obtain⟨b8,o9,ha10,hF12,hc11⟩:=(hx.Ai).1.all (show 0<x.Ai.xs.length by omega)
  replace ha10:x.Ai.a=some ⟨b8,o9,none⟩:=ha10
  refine Ku [(2,pt z),(JE z),(Nh x b8 o9),(JG x),(22,Ac k),(23,.bool true)] (by(try dsimp only[JA,JD,Nh,Lm,JG,JE]);simp only[ha10]) ?_
  have hc13:=hc11 k (show k<x.Ai.xs.length by omega)
  have he14:=(hx.Ai).2 k (show k<x.Ai.xs.length by omega)
  obtain⟨y15,hy15⟩:∃ y_,y_=gd x.Ai.xs k:=⟨_,rfl⟩
  rw[←hy15]at he14 hc13
  refine q_c 4 0 [] [[(oi k),(ol 0 (BD.arr y15)),o0,(an 4 3)]] [DJ k,k<x.Ai.xs.length,Di,He w b8 (o9+k*4) (BD.arr y15),Qb n6,Qb n6,Qb n6,Qb n6] [(2,pt z),(JE z),(Nh x b8 o9),(JG x),(22,Ac k),(6,pt n6)] ⟨w,n6+1,[(Ak w),(JD z c),(JA z x),(bk n6 (BD.arr y15) 103)]⟩ rfl ⟨rfl,(by omega),rfl,EH hc13,rfl,rfl,rfl,rfl,Af⟩ ?_
  by_cases h16:(y15.BP:Int)<0
  ·refine Az 9 0 [1] [[o0,(a1 3),oT,o0,o0,o0,o0,o0,o0],[o0]] [Qb n6,BT ((y15.BP:Int)<0)] [(4,.bool false)] rfl ⟨rfl,bt,Af⟩ ?_
   refine AO [] [] (.bool false) Af ?_
   intro w17 hw17
   refine⟨congrArg (fun b=>Ending.returned (Value.bool b)) (Eq.symm (?_:DI c.Ah.xs.length x=false)),Bi hw17⟩
   unfold DI
   have e1:x.Ai.xs.all Jo=false:=Md (k:=k) (by omega) (by rw[←hy15];exact decide_eq_false (by omega))
   simp[e1]
  by_cases h18:(256:Int)<y15.BP
  ·refine Az 9 0 [1] [[o0,(a1 3),oF,o0,o0,(a1 3),oT,o0,o0,o0,o0,o0],[o0]] [Qb n6,BF ((y15.BP:Int)<0),Qb n6,BT ((y15.BP:Int) > 256)] [(4,.bool false)] rfl ⟨rfl,bf,rfl,bt,Af⟩ ?_
   refine AO [] [] (.bool false) Af ?_
   intro w19 hw19
   refine⟨congrArg (fun b=>Ending.returned (Value.bool b)) (Eq.symm (?_:DI c.Ah.xs.length x=false)),Bi hw19⟩
   unfold DI
   have e1:x.Ai.xs.all Jo=false:=Md (k:=k) (by omega) (by rw[←hy15];exact decide_eq_false (by omega))
   simp[e1]
  by_cases h20:(y15.BH:Int)<1
  ·refine Az 9 0 [1] [[o0,(a1 3),oF,o0,o0,(a1 3),oF,o0,o0,o0,(a1 3),oT,o0,o0,o0],[o0]] [Qb n6,BF ((y15.BP:Int)<0),Qb n6,BF ((y15.BP:Int) > 256),Qb n6,BT ((y15.BH:Int)<1)] [(4,.bool false)] rfl ⟨rfl,bf,rfl,bf,rfl,bt,Af⟩ ?_
   refine AO [] [] (.bool false) Af ?_
   intro w21 hw21
   refine⟨congrArg (fun b=>Ending.returned (Value.bool b)) (Eq.symm (?_:DI c.Ah.xs.length x=false)),Bi hw21⟩
   unfold DI
   have e1:x.Ai.xs.all Jo=false:=Md (k:=k) (by omega) (by rw[←hy15];exact decide_eq_false (by omega))
   simp[e1]
  by_cases h22:(256 - y15.BP:Int)<y15.BH
  ·refine Az 9 0 [1] [[o0,(a1 3),oF,o0,o0,(a1 3),oF,o0,o0,o0,(a1 3),oF,o0,o0,o0,(a1 3),o0,(a1 3),(ov (i6 (256 - y15.BP))),oT,o0],[o0]] [Qb n6,BF ((y15.BP:Int)<0),Qb n6,BF ((y15.BP:Int) > 256),Qb n6,BF ((y15.BH:Int)<1),Qb n6,Qb n6,Wr ((256:Int) - y15.BP) (256 - y15.BP),BT ((y15.BH:Int) > (256 - y15.BP))] [(4,.bool false)] rfl ⟨rfl,bf,rfl,bf,rfl,bf,rfl,rfl,CB,bt,Af⟩ ?_
   refine AO [] [] (.bool false) Af ?_
   intro w23 hw23
   refine⟨congrArg (fun b=>Ending.returned (Value.bool b)) (Eq.symm (?_:DI c.Ah.xs.length x=false)),Bi hw23⟩
   unfold DI
   have e1:x.Ai.xs.all Jo=false:=Md (k:=k) (by omega) (by rw[←hy15];exact decide_eq_false (by omega))
   simp[e1]
  refine Az 9 0 [0] [[o0,(a1 3),oF,o0,o0,(a1 3),oF,o0,o0,o0,(a1 3),oF,o0,o0,o0,(a1 3),o0,(a1 3),(ov (i6 (256 - y15.BP))),oF,o0],[(ov (i6 ((k+1:Nat):Int))),o0]] [Qb n6,BF ((y15.BP:Int)<0),Qb n6,BF ((y15.BP:Int) > 256),Qb n6,BF ((y15.BH:Int)<1),Qb n6,Qb n6,Wr ((256:Int) - y15.BP) (256 - y15.BP),BF ((y15.BH:Int) > (256 - y15.BP)),Wr ((k:Int)+1) (((k+1:Nat):Int))] [(2,pt z),(JE z),(Nh x b8 o9),(JG x),(22,i6 ((k+1:Nat):Int))] rfl ⟨rfl,bf,rfl,bf,rfl,bf,rfl,rfl,CB,bf,CB,Af⟩ ?_
  refine BX [0,1,2] [(Ak w),(JD z c),(JA z x)] rfl rfl ?_
  refine FT [2,3,20,21,22] [(2,pt z),(JE z),(Lm x),(JG x),(22,i6 ((k+1:Nat):Int))] (by(try dsimp only[JA,JD,Nh,Lm,JG,JE]);simp only[ha10];rfl) ?_
  refine Cf (fun a w' hs=>⟨x.Ai.xs.length - (k+1),by omega,(n6+1),(k+1),rfl,by omega,by omega,upto hr (by rw[←hy15];exact decide_eq_true (by omega)),hs⟩)
 refine Az 16 0 [0] [[oF],[o0,(a1 2),o0,o0]] [BF ((k:Int)<(x.Ai.xs.length:Int)),Qb (z+1)] [(2,pt z),(MN x),(KI x),(51,i6 0)] rfl ⟨bf,rfl,Af⟩ ?_
 refine DY (fun m a w'=>∃ (n25:Nat) (j:Nat),m=x.Ar.xs.length - j∧n6≤n25∧(j≤x.Ar.xs.length)∧(∀ i,i<j→PL c.Ah.xs.length (gd x.Ar.xs i)=true)∧St 67 [(2,pt z),(MN x),(KI x),(51,Ac j)] [] ⟨w,n25,[(Ak w),(JD z c),(JA z x)]⟩ a w') (x.Ar.xs.length - 0) ?_ ?_
 ·intro a w' hs;exact⟨n6,0,rfl,Nat.le_refl _,Nat.zero_le _,fun i hi=>absurd hi (Nat.not_lt_zero i),hs⟩
 rintro m a w' ⟨n25,j,rfl,hn24,hkj,hp,hs⟩
 refine(?_:G Tryd.prog 67 [(2,pt z),(MN x),(KI x),(51,Ac j)] [] ⟨w,n25,[(Ak w),(JD z c),(JA z x)]⟩ _ _ _) a w' hs
 clear hs a w'
 refine DW ?_
 by_cases h26:(j:Int)<(x.Ar.xs.length:Int)
 ·refine Az 10 0 [1] [[oT]] [BT ((j:Int)<(x.Ar.xs.length:Int))] [(2,pt z),(MN x),(KI x),(51,Ac j),(52,.bool true)] rfl ⟨bt,Af⟩ ?_
  obtain⟨b27,o28,ha29,hF31,hc30⟩:=(hx.Ar).1.all (show 0<x.Ar.xs.length by omega)
  replace ha29:x.Ar.a=some ⟨b27,o28,none⟩:=ha29
  refine Ku [(2,pt z),(49,.slice (some ⟨b27,o28,none⟩) x.Ar.xs.length x.Ar.cap),(KI x),(51,Ac j),(52,.bool true)] (by(try dsimp only[JA,JD,Nh,Lm,MN,JG,KI,JE]);simp only[ha29]) ?_
  have hc32:=hc30 j (show j<x.Ar.xs.length by omega)
  have he33:=(hx.Ar).2 j (show j<x.Ar.xs.length by omega)
  obtain⟨y34,hy34⟩:∃ y_,y_=gd x.Ar.xs j:=⟨_,rfl⟩
  rw[←hy34]at he33 hc32
  refine q_c 4 0 [] [[(oi j),(ol 0 (DK.arr y34)),o0,(an 2 3)]] [DJ j,j<x.Ar.xs.length,Di,He w b27 (o28+j*2) (DK.arr y34),Qb n25,Qb n25] [(2,pt z),(49,.slice (some ⟨b27,o28,none⟩) x.Ar.xs.length x.Ar.cap),(KI x),(51,Ac j),(8,pt n25)] ⟨w,n25+1,[(Ak w),(JD z c),(JA z x),(bk n25 (DK.arr y34) 127)]⟩ rfl ⟨rfl,(by omega),rfl,EH hc32,rfl,rfl,Af⟩ ?_
  by_cases h35:(y34.Channel:Int)<0
  ·refine Az 9 0 [1] [[o0,(a1 3),oT,o0,o0],[o0]] [Qb n25,BT ((y34.Channel:Int)<0)] [(4,.bool false)] rfl ⟨rfl,bt,Af⟩ ?_
   refine AO [] [] (.bool false) Af ?_
   intro w36 hw36
   refine⟨congrArg (fun b=>Ending.returned (Value.bool b)) (Eq.symm (?_:DI c.Ah.xs.length x=false)),Bi hw36⟩
   unfold DI
   have e1:x.Ar.xs.all (PL c.Ah.xs.length)=false:=Md (k:=j) (by omega) (by rw[←hy34];exact decide_eq_false (by omega))
   simp[e1]
  by_cases h37:(y34.Channel:Int)<(c.Ah.xs.length:Int)
  ·refine Az 9 0 [0] [[o0,(a1 3),oF,o0,o0,(a1 3),o0,(a1 1),o0,oF,o0],[(ov (i6 ((j+1:Nat):Int))),o0]] [Qb n25,BF ((y34.Channel:Int)<0),Qb n25,Qb z,BF ((y34.Channel:Int)≥(c.Ah.xs.length:Int)),Wr ((j:Int)+1) (((j+1:Nat):Int))] [(2,pt z),(49,.slice (some ⟨b27,o28,none⟩) x.Ar.xs.length x.Ar.cap),(KI x),(51,i6 ((j+1:Nat):Int))] rfl ⟨rfl,bf,rfl,rfl,bf,CB,Af⟩ ?_
   refine BX [0,1,2] [(Ak w),(JD z c),(JA z x)] rfl rfl ?_
   refine FT [2,49,50,51] [(2,pt z),(MN x),(KI x),(51,i6 ((j+1:Nat):Int))] (by(try dsimp only[JA,JD,Lm,MN,JG,KI,JE]);simp only[ha29];rfl) ?_
   refine Cf (fun a w' hs=>⟨x.Ar.xs.length - (j+1),by omega,(n25+1),(j+1),rfl,by omega,by omega,upto hp (by rw[←hy34];exact decide_eq_true (by omega)),hs⟩)
  refine Az 9 0 [1] [[o0,(a1 3),oF,o0,o0,(a1 3),o0,(a1 1),o0,oT,o0],[o0]] [Qb n25,BF ((y34.Channel:Int)<0),Qb n25,Qb z,BT ((y34.Channel:Int)≥(c.Ah.xs.length:Int))] [(4,.bool false)] rfl ⟨rfl,bf,rfl,rfl,bt,Af⟩ ?_
  refine AO [] [] (.bool false) Af ?_
  intro w38 hw38
  refine⟨congrArg (fun b=>Ending.returned (Value.bool b)) (Eq.symm (?_:DI c.Ah.xs.length x=false)),Bi hw38⟩
  unfold DI
  have e1:x.Ar.xs.all (PL c.Ah.xs.length)=false:=Md (k:=j) (by omega) (by rw[←hy34];exact decide_eq_false (by omega))
  simp[e1]
 refine Az 15 0 [0] [[oF],[o0]] [BF ((j:Int)<(x.Ar.xs.length:Int))] [(4,.bool true)] rfl ⟨bf,Af⟩ ?_
 refine AO [] [] (.bool true) Af ?_
 intro w39 hw39
 refine⟨congrArg (fun b=>Ending.returned (Value.bool b)) (Eq.symm (?_:DI c.Ah.xs.length x=true)),Bi hw39⟩
 have e1:x.Ai.xs.all Jo=true:=SB (fun i hi=>hr i (by omega))
 have e2:x.Ar.xs.all (PL c.Ah.xs.length)=true:=SB (fun i hi=>hp i (by omega))
 simp only[DI,e1,e2,Bool.and_true,Bool.and_eq_true,decide_eq_true_eq]
 omega
def Ec(h:AP):Int:=if h.Words<1∨h.Words > 16 then 0 else if h.Kind=1 then h.Words else if h.Kind=2∧1≤h.Dy∧h.Dy≤8 then h.Dy*(1+h.Words)else 0
def Bz(h:AP):Int:=if Ec h=0 then 0 else if h.Kind=1 then 2+h.Words else 1+Ec h
def portOf(h:AP):Int:=if Ec h=0 then 0 else 3+Ec h
theorem QD(h:AP):0≤Ec h∧Ec h≤136:=by
 unfold Ec
 split
 ·omega
 split
 ·omega
 split
 ·rename_i h1 h2 h3
  have hd:h.Dy=1∨h.Dy=2∨h.Dy=3∨h.Dy=4∨h.Dy=5∨h.Dy=6∨h.Dy=7∨h.Dy=8:=by omega
  rcases hd with e | e | e | e | e | e | e | e <;> rw[e] <;> omega
 omega
theorem Lp{h:AP}(h1:h.Words<1∨h.Words > 16):Ec h=0:=by unfold Ec;rw[if_pos h1]
theorem Qw{h:AP}(h1:¬ h.Words<1)(h2:¬ 16<h.Words)(h3:h.Kind=1):Ec h=h.Words:=by unfold Ec;rw[if_neg (by omega),if_pos h3]
theorem Qq{h:AP}(h1:¬ h.Words<1)(h2:¬ 16<h.Words)(h3:¬ h.Kind=1)(h4:h.Kind=2)(h5:1≤h.Dy)(h6:h.Dy≤8):Ec h=h.Dy*(1+h.Words):=by unfold Ec;rw[if_neg (by omega),if_neg h3,if_pos ⟨h4,h5,h6⟩]
theorem Lh{h:AP}(h1:¬ h.Words<1)(h2:¬ 16<h.Words)(h3:¬ h.Kind=1)(h4:¬ (h.Kind=2∧1≤h.Dy∧h.Dy≤8)):Ec h=0:=by unfold Ec;rw[if_neg (by omega),if_neg h3,if_neg h4]
theorem Zb(h:AP):Ec h=0∨(1≤h.Words∧h.Words≤16):=by
 unfold Ec;split
 ·exact .inl rfl
 right;omega
theorem JY{h:AP}(h1:Ec h=0):0=Bz h:=by unfold Bz;rw[if_pos h1]
theorem PN{h:AP}(h1:¬ h.Words<1)(h2:¬ 16<h.Words)(h3:h.Kind=1):2+h.Words=Bz h:=by unfold Bz;rw[Qw h1 h2 h3,if_neg (by omega),if_pos h3]
theorem Qc{h:AP}(h1:¬ h.Words<1)(h2:¬ 16<h.Words)(h3:¬ h.Kind=1)(h4:h.Kind=2)(h5:1≤h.Dy)(h6:h.Dy≤8):1+h.Dy*(1+h.Words)=Bz h:=by
 unfold Bz;rw[Qq h1 h2 h3 h4 h5 h6,if_neg ?_,if_neg h3]
 have:=Int.mul_pos (show 0<h.Dy by omega) (show 0<1+h.Words by omega)
 omega
theorem LD(h:AP):0≤Bz h∧Bz h≤137:=by
 have hb:=QD h
 unfold Bz
 split
 ·omega
 split
 ·rename_i h1 h2
  unfold Ec at h1
  split at h1
  ·exact absurd rfl h1
  omega
 omega
theorem Ri(h:AP):0≤portOf h∧portOf h≤139:=by
 have hb:=QD h
 unfold portOf
 split <;> omega
theorem JL(h:AP):Bz h=0↔portOf h=0:=by
 have hb:=QD h
 unfold Bz portOf
 split
 ·simp
 split
 ·rename_i h1 h2
  unfold Ec at h1 hb
  constructor
  ·intro e
   split at h1
   ·exact absurd rfl h1
   omega
  intro e;exfalso;unfold Ec at e;omega
 omega
theorem Y7{h:AP}(h1:¬ Bz h=0)(h2:h.Kind=1):Bz h+1=portOf h:=by
 unfold Bz portOf at *
 split at h1
 ·exact absurd rfl h1
 rename_i hb
 rw[if_neg hb,if_neg hb,if_pos h2]
 unfold Ec at hb ⊢
 split at hb
 ·exact absurd rfl hb
 rename_i h3
 rw[if_neg h3,if_pos h2];omega
theorem Yx{h:AP}(h1:¬ Bz h=0)(h2:¬ h.Kind=1):Bz h+2=portOf h:=by
 unfold Bz portOf at *
 split at h1
 ·exact absurd rfl h1
 rename_i hb
 rw[if_neg hb,if_neg hb,if_neg h2];omega
theorem Ou(w:World)(h:AP)(hh:AP.ok Any w h):Calls Tryd.prog 40 #[.agg (AP.arr h)] w fun e w'=>e = .returned (.int .i64 (Bz h))∧CZ (fun _=>False) w w':=by
 obtain⟨z,hz⟩:∃ z,z=w.heap.size:=⟨_,rfl⟩
 refine Cb (args:=[.agg (AP.arr h)]) 40 ⟨w,z,[(Ak w)]⟩ Tryd.func40 rfl (by kernel_rfl) (by kernel_rfl) (ES hz) ?_
 refine Ee [0] [(0,.agg (AP.arr h))] ?_
 refine q_c 7 0 [] [[o0,o0]] [] [(1,pt z)] ⟨w,z+1,[(Ak w),(bk z (AP.arr h) 115)]⟩ rfl Af ?_
 by_cases h1:(h.Words:Int)<1
 ·refine Az 9 0 [1] [[o0,(a1 1),oT,o0,o0,o0],[o0]] [Qb z,BT ((h.Words:Int)<1)] [(2,i6 0)] rfl ⟨rfl,bt,Af⟩ ?_
  refine AO [] [] (i6 0) Af ?_
  intro w2 hw2
  refine⟨congrArg (fun n=>Ending.returned (i6 n)) (?_:(0:Int)=Bz h),Bi hw2⟩
  first
   | exact JY (Lp (by omega))
   | exact PN (by omega) (by omega) (by omega)
   | exact Qc (by omega) (by omega) (by omega) (by omega) (by omega) (by omega)
   | exact JY (Lh (by omega) (by omega) (by omega) (by omega))
 by_cases h3:(16:Int)<h.Words
 ·refine Az 9 0 [1] [[o0,(a1 1),oF,o0,o0,(a1 1),oT,o0,o0],[o0]] [Qb z,BF ((h.Words:Int)<1),Qb z,BT ((h.Words:Int) > 16)] [(2,i6 0)] rfl ⟨rfl,bf,rfl,bt,Af⟩ ?_
  refine AO [] [] (i6 0) Af ?_
  intro w4 hw4
  refine⟨congrArg (fun n=>Ending.returned (i6 n)) (?_:(0:Int)=Bz h),Bi hw4⟩
  first
   | exact JY (Lp (by omega))
   | exact PN (by omega) (by omega) (by omega)
   | exact Qc (by omega) (by omega) (by omega) (by omega) (by omega) (by omega)
   | exact JY (Lh (by omega) (by omega) (by omega) (by omega))
 refine Az 5 0 [0] [[o0,(a1 1),oF,o0,o0,(a1 1),oF,o0,o0]] [Qb z,BF ((h.Words:Int)<1),Qb z,BF ((h.Words:Int) > 16)] [(1,pt z),(3,.bool false)] rfl ⟨rfl,bf,rfl,bf,Af⟩ ?_
 by_cases h5:(h.Kind:Int)=1
 ·refine Az 9 0 [1] [[o0,(a1 1),oT,o0],[o0,(a1 1),(ov (i6 (2+h.Words))),o0]] [Qb z,ET h.Kind 1,Qb z,Wr ((2:Int)+h.Words) (2+h.Words)] [(2,i6 (2+h.Words))] rfl ⟨rfl,et,rfl,CB,Af⟩ ?_
  refine AO [] [] (i6 (2+h.Words)) Af ?_
  intro w6 hw6
  refine⟨congrArg (fun n=>Ending.returned (i6 n)) (?_:(2+h.Words:Int)=Bz h),Bi hw6⟩
  first
   | exact JY (Lp (by omega))
   | exact PN (by omega) (by omega) (by omega)
   | exact Qc (by omega) (by omega) (by omega) (by omega) (by omega) (by omega)
   | exact JY (Lh (by omega) (by omega) (by omega) (by omega))
 refine Az 5 0 [0] [[o0,(a1 1),oF,o0]] [Qb z,EF h.Kind 1] [(1,pt z),(12,.bool false)] rfl ⟨rfl,ef,Af⟩ ?_
 by_cases h7:(h.Kind:Int)=2
 ·by_cases h8:(h.Dy:Int)<1
  ·refine Az 12 0 [0] [[o0,(a1 1),oT,o0,o0,(a1 1),oF,o0,o0,o0,o0],[o0]] [Qb z,ET h.Kind 2,Qb z,BF ((h.Dy:Int)≥1)] [(2,i6 0)] rfl ⟨rfl,et,rfl,bf,Af⟩ ?_
   refine AO [] [] (i6 0) Af ?_
   intro w9 hw9
   refine⟨congrArg (fun n=>Ending.returned (i6 n)) (?_:(0:Int)=Bz h),Bi hw9⟩
   first
    | exact JY (Lp (by omega))
    | exact PN (by omega) (by omega) (by omega)
    | exact Qc (by omega) (by omega) (by omega) (by omega) (by omega) (by omega)
    | exact JY (Lh (by omega) (by omega) (by omega) (by omega))
  by_cases h10:(8:Int)<h.Dy
  ·refine Az 12 0 [0] [[o0,(a1 1),oT,o0,o0,(a1 1),oT,o0,o0,o0,(a1 1),oF,o0,o0],[o0]] [Qb z,ET h.Kind 2,Qb z,BT ((h.Dy:Int)≥1),Qb z,BF ((h.Dy:Int)≤8)] [(2,i6 0)] rfl ⟨rfl,et,rfl,bt,rfl,bf,Af⟩ ?_
   refine AO [] [] (i6 0) Af ?_
   intro w11 hw11
   refine⟨congrArg (fun n=>Ending.returned (i6 n)) (?_:(0:Int)=Bz h),Bi hw11⟩
   first
    | exact JY (Lp (by omega))
    | exact PN (by omega) (by omega) (by omega)
    | exact Qc (by omega) (by omega) (by omega) (by omega) (by omega) (by omega)
    | exact JY (Lh (by omega) (by omega) (by omega) (by omega))
  refine Az 6 0 [1] [[o0,(a1 1),oT,o0,o0,(a1 1),oT,o0,o0,o0,(a1 1),oT,o0,o0]] [Qb z,ET h.Kind 2,Qb z,BT ((h.Dy:Int)≥1),Qb z,BT ((h.Dy:Int)≤8)] [(1,pt z),(19,.bool true)] rfl ⟨rfl,et,rfl,bt,rfl,bt,Af⟩ ?_
  have hm12:=Za7 (a:=h.Dy) (b:=1+h.Words) (by omega) (by omega) (by omega) (by omega)
  refine Cc 3 0 [] [[o0,(a1 1),o0,(a1 1),(ov (i6 (1+h.Words))),(ov (i6 (h.Dy*(1+h.Words)))),(ov (i6 (1+(h.Dy*(1+h.Words))))),o0]] [Qb z,Qb z,Wr ((1:Int)+h.Words) (1+h.Words),Wr ((h.Dy:Int)*(1+h.Words)) (h.Dy*(1+h.Words)),Wr ((1:Int)+(h.Dy*(1+h.Words))) (1+(h.Dy*(1+h.Words)))] [(2,i6 (1+(h.Dy*(1+h.Words))))] rfl ⟨rfl,rfl,CB,CB,CB,Af⟩ ?_
  refine AO [] [] (i6 (1+(h.Dy*(1+h.Words)))) Af ?_
  intro w13 hw13
  refine⟨congrArg (fun n=>Ending.returned (i6 n)) (?_:(1+(h.Dy*(1+h.Words)):Int)=Bz h),Bi hw13⟩
  first
   | exact JY (Lp (by omega))
   | exact PN (by omega) (by omega) (by omega)
   | exact Qc (by omega) (by omega) (by omega) (by omega) (by omega) (by omega)
   | exact JY (Lh (by omega) (by omega) (by omega) (by omega))
 refine Az 12 0 [0] [[o0,(a1 1),oF,o0,o0,o0,o0,o0],[o0]] [Qb z,EF h.Kind 2] [(2,i6 0)] rfl ⟨rfl,ef,Af⟩ ?_
 refine AO [] [] (i6 0) Af ?_
 intro w14 hw14
 refine⟨congrArg (fun n=>Ending.returned (i6 n)) (?_:(0:Int)=Bz h),Bi hw14⟩
 first
  | exact JY (Lp (by omega))
  | exact PN (by omega) (by omega) (by omega)
  | exact Qc (by omega) (by omega) (by omega) (by omega) (by omega) (by omega)
  | exact JY (Lh (by omega) (by omega) (by omega) (by omega))
theorem VY(w:World)(h:AP)(hh:AP.ok Any w h):Calls Tryd.prog 80 #[.agg (AP.arr h)] w fun e w'=>e = .returned (.int .i64 (Ec h))∧CZ (fun _=>False) w w':=by
 obtain⟨z,hz⟩:∃ z,z=w.heap.size:=⟨_,rfl⟩
 refine Cb (args:=[.agg (AP.arr h)]) 35 ⟨w,z,[(Ak w)]⟩ Tryd.func80 rfl (by kernel_rfl) (by kernel_rfl) (ES hz) ?_
 refine Ee [0] [(0,.agg (AP.arr h))] ?_
 refine q_c 6 0 [] [[o0,o0]] [] [(1,pt z)] ⟨w,z+1,[(Ak w),(bk z (AP.arr h) 115)]⟩ rfl Af ?_
 by_cases h1:(h.Words:Int)<1
 ·refine Az 9 0 [1] [[o0,(a1 1),oT,o0,o0],[o0]] [Qb z,BT ((h.Words:Int)<1)] [(2,i6 0)] rfl ⟨rfl,bt,Af⟩ ?_
  refine AO [] [] (i6 0) Af ?_
  intro w2 hw2
  refine⟨congrArg (fun n=>Ending.returned (i6 n)) (?_:(0:Int)=Ec h),Bi hw2⟩
  first
   | exact(Lp (by omega)).symm
   | exact(Qw (by omega) (by omega) (by omega)).symm
   | exact(Qq (by omega) (by omega) (by omega) (by omega) (by omega) (by omega)).symm
   | exact(Lh (by omega) (by omega) (by omega) (by omega)).symm
 by_cases h3:(16:Int)<h.Words
 ·refine Az 9 0 [1] [[o0,(a1 1),oF,o0,o0,(a1 1),oT,o0],[o0]] [Qb z,BF ((h.Words:Int)<1),Qb z,BT ((h.Words:Int) > 16)] [(2,i6 0)] rfl ⟨rfl,bf,rfl,bt,Af⟩ ?_
  refine AO [] [] (i6 0) Af ?_
  intro w4 hw4
  refine⟨congrArg (fun n=>Ending.returned (i6 n)) (?_:(0:Int)=Ec h),Bi hw4⟩
  first
   | exact(Lp (by omega)).symm
   | exact(Qw (by omega) (by omega) (by omega)).symm
   | exact(Qq (by omega) (by omega) (by omega) (by omega) (by omega) (by omega)).symm
   | exact(Lh (by omega) (by omega) (by omega) (by omega)).symm
 refine Az 8 0 [0] [[o0,(a1 1),oF,o0,o0,(a1 1),oF,o0]] [Qb z,BF ((h.Words:Int)<1),Qb z,BF ((h.Words:Int) > 16)] [(1,pt z),(10,.bool false)] rfl ⟨rfl,bf,rfl,bf,Af⟩ ?_
 by_cases h5:(h.Kind:Int)=1
 ·refine Az 9 0 [1] [[o0,(a1 1),oT],[o0,(a1 1),o0]] [Qb z,ET h.Kind 1,Qb z] [(2,i6 h.Words)] rfl ⟨rfl,et,rfl,Af⟩ ?_
  refine AO [] [] (i6 h.Words) Af ?_
  intro w6 hw6
  refine⟨congrArg (fun n=>Ending.returned (i6 n)) (?_:(h.Words:Int)=Ec h),Bi hw6⟩
  first
   | exact(Lp (by omega)).symm
   | exact(Qw (by omega) (by omega) (by omega)).symm
   | exact(Qq (by omega) (by omega) (by omega) (by omega) (by omega) (by omega)).symm
   | exact(Lh (by omega) (by omega) (by omega) (by omega)).symm
 refine Az 8 0 [0] [[o0,(a1 1),oF]] [Qb z,EF h.Kind 1] [(1,pt z),(13,.bool false)] rfl ⟨rfl,ef,Af⟩ ?_
 by_cases h7:(h.Kind:Int)=2
 ·by_cases h8:(h.Dy:Int)<1
  ·refine Az 11 0 [0] [[o0,(a1 1),oT,o0,o0,(a1 1),oF,o0,o0,o0],[o0]] [Qb z,ET h.Kind 2,Qb z,BF ((h.Dy:Int)≥1)] [(2,i6 0)] rfl ⟨rfl,et,rfl,bf,Af⟩ ?_
   refine AO [] [] (i6 0) Af ?_
   intro w9 hw9
   refine⟨congrArg (fun n=>Ending.returned (i6 n)) (?_:(0:Int)=Ec h),Bi hw9⟩
   first
    | exact(Lp (by omega)).symm
    | exact(Qw (by omega) (by omega) (by omega)).symm
    | exact(Qq (by omega) (by omega) (by omega) (by omega) (by omega) (by omega)).symm
    | exact(Lh (by omega) (by omega) (by omega) (by omega)).symm
  by_cases h10:(8:Int)<h.Dy
  ·refine Az 11 0 [0] [[o0,(a1 1),oT,o0,o0,(a1 1),oT,o0,o0,o0,(a1 1),oF,o0],[o0]] [Qb z,ET h.Kind 2,Qb z,BT ((h.Dy:Int)≥1),Qb z,BF ((h.Dy:Int)≤8)] [(2,i6 0)] rfl ⟨rfl,et,rfl,bt,rfl,bf,Af⟩ ?_
   refine AO [] [] (i6 0) Af ?_
   intro w11 hw11
   refine⟨congrArg (fun n=>Ending.returned (i6 n)) (?_:(0:Int)=Ec h),Bi hw11⟩
   first
    | exact(Lp (by omega)).symm
    | exact(Qw (by omega) (by omega) (by omega)).symm
    | exact(Qq (by omega) (by omega) (by omega) (by omega) (by omega) (by omega)).symm
    | exact(Lh (by omega) (by omega) (by omega) (by omega)).symm
  refine Az 6 0 [1] [[o0,(a1 1),oT,o0,o0,(a1 1),oT,o0,o0,o0,(a1 1),oT,o0]] [Qb z,ET h.Kind 2,Qb z,BT ((h.Dy:Int)≥1),Qb z,BT ((h.Dy:Int)≤8)] [(1,pt z),(28,.bool true)] rfl ⟨rfl,et,rfl,bt,rfl,bt,Af⟩ ?_
  have hm12:=Za7 (a:=h.Dy) (b:=1+h.Words) (by omega) (by omega) (by omega) (by omega)
  refine Cc 3 0 [] [[o0,(a1 1),o0,(a1 1),(ov (i6 (1+h.Words))),(ov (i6 (h.Dy*(1+h.Words)))),o0]] [Qb z,Qb z,Wr ((1:Int)+h.Words) (1+h.Words),Wr ((h.Dy:Int)*(1+h.Words)) (h.Dy*(1+h.Words))] [(2,i6 (h.Dy*(1+h.Words)))] rfl ⟨rfl,rfl,CB,CB,Af⟩ ?_
  refine AO [] [] (i6 (h.Dy*(1+h.Words))) Af ?_
  intro w13 hw13
  refine⟨congrArg (fun n=>Ending.returned (i6 n)) (?_:(h.Dy*(1+h.Words):Int)=Ec h),Bi hw13⟩
  first
   | exact(Lp (by omega)).symm
   | exact(Qw (by omega) (by omega) (by omega)).symm
   | exact(Qq (by omega) (by omega) (by omega) (by omega) (by omega) (by omega)).symm
   | exact(Lh (by omega) (by omega) (by omega) (by omega)).symm
 refine Az 11 0 [0] [[o0,(a1 1),oF,o0,o0,o0,o0],[o0]] [Qb z,EF h.Kind 2] [(2,i6 0)] rfl ⟨rfl,ef,Af⟩ ?_
 refine AO [] [] (i6 0) Af ?_
 intro w14 hw14
 refine⟨congrArg (fun n=>Ending.returned (i6 n)) (?_:(0:Int)=Ec h),Bi hw14⟩
 first
  | exact(Lp (by omega)).symm
  | exact(Qw (by omega) (by omega) (by omega)).symm
  | exact(Qq (by omega) (by omega) (by omega) (by omega) (by omega) (by omega)).symm
  | exact(Lh (by omega) (by omega) (by omega) (by omega)).symm
theorem U5(w:World)(h:AP)(hh:AP.ok Any w h):Calls Tryd.prog 56 #[.agg (AP.arr h)] w fun e w'=>e = .returned (.int .i64 (Bz h))∧CZ (fun _=>False) w w':=by
 obtain⟨z,hz⟩:∃ z,z=w.heap.size:=⟨_,rfl⟩
 refine Cb (args:=[.agg (AP.arr h)]) 16 ⟨w,z,[(Ak w)]⟩ Tryd.func56 rfl (by kernel_rfl) (by kernel_rfl) (ES hz) ?_
 have hbd:=QD h;have hsd:=LD h;have hwd:=Zb h
 refine Ee [0] [(0,.agg (AP.arr h))] ?_
 refine q_c 6 1 [] [[o0,o0],[(an 3 1)]] [Qb z,Qb z,Qb z] [(1,pt z),(4,.agg (AP.arr h))] ⟨w,z+1,[(Ak w),(bk z (AP.arr h) 115)]⟩ rfl ⟨rfl,rfl,rfl,Af⟩ ?_
 refine BI 80 #[.agg (AP.arr h)] (some 5) (i6 (Ec h)) (fun w1 hw1=>VY w1 h (hh.ext (hw1.ext rfl) (fun _ h=>h))) (fun n2 (hn3:z+1≤n2) => ?_)
 refine Cc 4 0 [] [[o0]] [] [(1,pt z),(3,i6 (Ec h))] rfl Af ?_
 by_cases h4:(Ec h:Int)=0
 ·refine Az 9 0 [1] [[o0,oT],[o0]] [ET (Ec h) 0] [(2,i6 0)] rfl ⟨et,Af⟩ ?_
  refine AO [] [] (i6 0) Af ?_
  intro w5 hw5
  refine⟨congrArg (fun n=>Ending.returned (i6 n)) (?_:(0:Int)=Bz h),Bi hw5⟩
  unfold Bz
  first
   | (rw[if_pos (by omega)])
   | (rw[if_neg (by omega),if_pos (by omega)])
   | (rw[if_neg (by omega),if_neg (by omega)])
 refine Az 8 0 [0] [[o0,oF]] [EF (Ec h) 0] [(1,pt z),(3,i6 (Ec h)),(7,.bool false)] rfl ⟨ef,Af⟩ ?_
 by_cases h6:(h.Kind:Int)=1
 ·refine Az 9 0 [1] [[o0,(a1 1),oT],[o0,(a1 1),(ov (i6 (2+h.Words))),o0]] [Qb z,ET h.Kind 1,Qb z,Wr ((2:Int)+h.Words) (2+h.Words)] [(2,i6 (2+h.Words))] rfl ⟨rfl,et,rfl,CB,Af⟩ ?_
  refine AO [] [] (i6 (2+h.Words)) Af ?_
  intro w7 hw7
  refine⟨congrArg (fun n=>Ending.returned (i6 n)) (?_:(2+h.Words:Int)=Bz h),Bi hw7⟩
  unfold Bz
  first
   | (rw[if_pos (by omega)])
   | (rw[if_neg (by omega),if_pos (by omega)])
   | (rw[if_neg (by omega),if_neg (by omega)])
 refine Az 11 0 [0] [[o0,(a1 1),oF],[o0,(ov (i6 (1+(Ec h)))),o0]] [Qb z,EF h.Kind 1,Wr ((1:Int)+(Ec h)) (1+(Ec h))] [(2,i6 (1+(Ec h)))] rfl ⟨rfl,ef,CB,Af⟩ ?_
 refine AO [] [] (i6 (1+(Ec h))) Af ?_
 intro w8 hw8
 refine⟨congrArg (fun n=>Ending.returned (i6 n)) (?_:(1+(Ec h):Int)=Bz h),Bi hw8⟩
 unfold Bz
 first
  | (rw[if_pos (by omega)])
  | (rw[if_neg (by omega),if_pos (by omega)])
  | (rw[if_neg (by omega),if_neg (by omega)])
theorem Sj(w:World)(h:AP)(hh:AP.ok Any w h):Calls Tryd.prog 54 #[.agg (AP.arr h)] w fun e w'=>e = .returned (.int .i64 (portOf h))∧CZ (fun _=>False) w w':=by
 obtain⟨z,hz⟩:∃ z,z=w.heap.size:=⟨_,rfl⟩
 refine Cb (args:=[.agg (AP.arr h)]) 10 ⟨w,z,[(Ak w)]⟩ Tryd.func54 rfl (by kernel_rfl) (by kernel_rfl) (ES hz) ?_
 have hbd:=QD h;have hsd:=LD h;have hwd:=Zb h
 refine Ee [0] [(0,.agg (AP.arr h))] ?_
 refine q_c 6 1 [] [[o0,o0],[(an 3 1)]] [Qb z,Qb z,Qb z] [(4,.agg (AP.arr h))] ⟨w,z+1,[(Ak w),(bk z (AP.arr h) 115)]⟩ rfl ⟨rfl,rfl,rfl,Af⟩ ?_
 refine BI 80 #[.agg (AP.arr h)] (some 5) (i6 (Ec h)) (fun w1 hw1=>VY w1 h (hh.ext (hw1.ext rfl) (fun _ h=>h))) (fun n2 (hn3:z+1≤n2) => ?_)
 refine Cc 4 0 [] [[o0]] [] [(3,i6 (Ec h))] rfl Af ?_
 by_cases h4:(Ec h:Int)=0
 ·refine Az 9 0 [1] [[o0,oT],[o0]] [ET (Ec h) 0] [(2,i6 0)] rfl ⟨et,Af⟩ ?_
  refine AO [] [] (i6 0) Af ?_
  intro w5 hw5
  refine⟨congrArg (fun n=>Ending.returned (i6 n)) (?_:(0:Int)=portOf h),Bi hw5⟩
  unfold portOf
  first
   | (rw[if_pos (by omega)])
   | (rw[if_neg (by omega)])
 refine Az 11 0 [0] [[o0,oF],[o0,(ov (i6 (3+(Ec h)))),o0]] [EF (Ec h) 0,Wr ((3:Int)+(Ec h)) (3+(Ec h))] [(2,i6 (3+(Ec h)))] rfl ⟨ef,CB,Af⟩ ?_
 refine AO [] [] (i6 (3+(Ec h))) Af ?_
 intro w6 hw6
 refine⟨congrArg (fun n=>Ending.returned (i6 n)) (?_:(3+(Ec h):Int)=portOf h),Bi hw6⟩
 unfold portOf
 first
  | (rw[if_pos (by omega)])
  | (rw[if_neg (by omega)])
theorem Zak(w:World)(h:AP)(hh:AP.ok Any w h):Calls Tryd.prog 41 #[.agg (AP.arr h)] w fun e w'=>e = .returned (.int .i64 (portOf h))∧CZ (fun _=>False) w w':=by
 obtain⟨z,hz⟩:∃ z,z=w.heap.size:=⟨_,rfl⟩
 refine Cb (args:=[.agg (AP.arr h)]) 17 ⟨w,z,[(Ak w)]⟩ Tryd.func41 rfl (by kernel_rfl) (by kernel_rfl) (ES hz) ?_
 have hbd:=QD h;have hsd:=LD h;have hwd:=Zb h;have hsp:=JL h
 refine Ee [0] [(0,.agg (AP.arr h))] ?_
 refine q_c 6 1 [] [[o0,o0],[(an 3 1)]] [Qb z,Qb z,Qb z] [(1,pt z),(4,.agg (AP.arr h))] ⟨w,z+1,[(Ak w),(bk z (AP.arr h) 115)]⟩ rfl ⟨rfl,rfl,rfl,Af⟩ ?_
 refine BI 40 #[.agg (AP.arr h)] (some 5) (i6 (Bz h)) (fun w1 hw1=>Ou w1 h (hh.ext (hw1.ext rfl) (fun _ h=>h))) (fun n2 (hn3:z+1≤n2) => ?_)
 refine Cc 4 0 [] [[o0]] [] [(1,pt z),(3,i6 (Bz h))] rfl Af ?_
 by_cases h4:(Bz h:Int)=0
 ·refine Az 9 0 [1] [[o0,oT,o0],[o0]] [ET (Bz h) 0] [(2,i6 0)] rfl ⟨et,Af⟩ ?_
  refine AO [] [] (i6 0) Af ?_
  intro w5 hw5
  refine⟨congrArg (fun n=>Ending.returned (i6 n)) (?_:(0:Int)=portOf h),Bi hw5⟩
  first
   | (have:=hsp.1 (by omega);omega)
   | exact Y7 (by omega) (by omega)
   | exact Yx (by omega) (by omega)
 refine Az 5 0 [0] [[o0,oF,o0]] [EF (Bz h) 0] [(1,pt z),(3,i6 (Bz h)),(8,.bool false)] rfl ⟨ef,Af⟩ ?_
 by_cases h6:(h.Kind:Int)=1
 ·refine Az 9 0 [1] [[o0,(a1 1),oT,o0],[o0,(ov (i6 ((Bz h)+1))),o0]] [Qb z,ET h.Kind 1,Wr ((Bz h:Int)+1) ((Bz h)+1)] [(2,i6 ((Bz h)+1))] rfl ⟨rfl,et,CB,Af⟩ ?_
  refine AO [] [] (i6 ((Bz h)+1)) Af ?_
  intro w7 hw7
  refine⟨congrArg (fun n=>Ending.returned (i6 n)) (?_:((Bz h)+1:Int)=portOf h),Bi hw7⟩
  first
   | (have:=hsp.1 (by omega);omega)
   | exact Y7 (by omega) (by omega)
   | exact Yx (by omega) (by omega)
 refine Az 9 0 [0] [[o0,(a1 1),oF,o0],[o0,(ov (i6 ((Bz h)+2))),o0]] [Qb z,EF h.Kind 1,Wr ((Bz h:Int)+2) ((Bz h)+2)] [(2,i6 ((Bz h)+2))] rfl ⟨rfl,ef,CB,Af⟩ ?_
 refine AO [] [] (i6 ((Bz h)+2)) Af ?_
 intro w8 hw8
 refine⟨congrArg (fun n=>Ending.returned (i6 n)) (?_:((Bz h)+2:Int)=portOf h),Bi hw8⟩
 first
  | (have:=hsp.1 (by omega);omega)
  | exact Y7 (by omega) (by omega)
  | exact Yx (by omega) (by omega)
theorem take_snoc{α:Type}[Inhabited α]{xs:List α}{k:Nat}(h:k<xs.length):xs.take (k+1)=xs.take k++[gd xs k]:=by
 rw[List.take_succ_eq_append_getElem h,F8 h]
def Hz(k:Int)(b:Bool)(q:DK):Bool:=decide (q.Channel=k)&&(q.Source==b)
def Dz(x:Aq)(k:Int)(b:Bool):Nat:=x.Ar.xs.countP (Hz k b)
theorem Vq{q:DK}{k:Int}{b:Bool}(h1:q.Channel=k)(h2:q.Source=b):Hz k b q=true:=by simp[Hz,h1,h2]
theorem UE{q:DK}{k:Int}{b:Bool}(h1:¬ q.Channel=k):Hz k b q=false:=by simp[Hz,h1]
theorem Ti{q:DK}{k:Int}{b:Bool}(h2:¬ q.Source=b):Hz k b q=false:=by simp[Hz,h2]
theorem Z9{xs:List DK}{p:DK→Bool}{j:Nat}(h:j<xs.length)(hp:p (gd xs j)=true):(xs.take (j+1)).countP p=(xs.take j).countP p+1:=by
 rw[take_snoc h,List.countP_append];simp only[List.countP_singleton,hp,if_true]
theorem Y1{xs:List DK}{p:DK→Bool}{j:Nat}(h:j<xs.length)(hp:p (gd xs j)=false):(xs.take (j+1)).countP p=(xs.take j).countP p:=by
 rw[take_snoc h,List.countP_append];simp[List.countP_singleton,hp]
theorem cnt_le{xs:List DK}{p:DK→Bool}{j:Nat}:(xs.take j).countP p≤j:=Nat.le_trans List.countP_le_length (by rw[List.length_take];omega)
def Fh{α:Type}(f:α→Nat)(xs:List α)(i:Nat):Nat:=((xs.take i).map f).sum
theorem OA{α:Type}[Inhabited α]{f:α→Nat}{xs:List α}{i:Nat}(h:i<xs.length):Fh f xs (i+1)=Fh f xs i+f (gd xs i):=by
 unfold Fh;rw[take_snoc h];simp
theorem TE{α:Type}[Inhabited α]{f:α→Nat}{xs:List α}{B:Nat}(hf:∀ i,i<xs.length→f (gd xs i)≤B):∀ (i:Nat),i≤xs.length→Fh f xs i≤B*i
 | 0,_=>by simp[Fh]
 | i+1,h=>by
  have:=TE hf i (by omega)
  have h2:=hf i (by omega)
  rw[OA (by omega),Nat.mul_succ];omega
def Iw(c:Aj)(k:Nat)(b:Bool):Nat:=Fh (fun x=>Dz x k b) c.Aa.xs c.Aa.xs.length
def MQ(c:Aj)(k:Nat):Bool:=decide (portOf (gd c.Ah.xs k)≠0) && !(decide ((gd c.Ah.xs k).Kind=1)&&decide ((gd c.Ah.xs k).Dy≠0))&&decide (Iw c k true=1)&&decide (1≤Iw c k false∧Iw c k false≤4)
def Eh(c:Aj):Bool:=decide (0≤c.Kernel∧c.Kernel<1024)&&decide (c.Aa.xs.length≤8)&&decide (c.Ah.xs.length≤16)&&c.Aa.xs.all (DI c.Ah.xs.length)&&(List.range c.Ah.xs.length).all (MQ c)
theorem NS{c:Aj}(h:¬ (0≤c.Kernel∧c.Kernel<1024)∨8<c.Aa.xs.length∨16<c.Ah.xs.length):Eh c=false:=by
 unfold Eh
 rcases h with h | h | h
 ·rw[decide_eq_false h];rfl
 ·rw[decide_eq_false (show ¬ c.Aa.xs.length≤8 by omega)];simp
 rw[decide_eq_false (show ¬ c.Ah.xs.length≤16 by omega)];simp
theorem YJ{c:Aj}{k:Nat}(hk:k<c.Aa.xs.length)(h:DI c.Ah.xs.length (gd c.Aa.xs k)=false):Eh c=false:=by
 unfold Eh
 rw[Md hk h];simp
theorem IE{c:Aj}{k:Nat}(hk:k<c.Ah.xs.length)(h:MQ c k=false):Eh c=false:=by
 unfold Eh
 have:(List.range c.Ah.xs.length).all (MQ c)=false:=by
  rw[List.all_eq_false];exact⟨k,List.mem_range.2 hk,by simp[h]⟩
 rw[this];simp
theorem YP{c:Aj}(h1:0≤c.Kernel∧c.Kernel<1024)(h2:c.Aa.xs.length≤8)(h3:c.Ah.xs.length≤16)(h4:∀ i,i<c.Aa.xs.length→DI c.Ah.xs.length (gd c.Aa.xs i)=true)(h5:∀ i,i<c.Ah.xs.length→MQ c i=true):Eh c=true:=by
 unfold Eh
 rw[decide_eq_true h1,decide_eq_true h2,decide_eq_true h3,SB h4]
 simp only[Bool.and_true,Bool.true_and,List.all_eq_true,List.mem_range]
 exact h5
theorem ML{n:Nat}{x:Aq}(h:DI n x=true):x.Ar.xs.length≤8:=by
 unfold DI at h;simp only[Bool.and_eq_true,decide_eq_true_eq]at h;exact h.1.1.2
theorem part_regs{n:Nat}{x:Aq}(h:DI n x=true):x.Ai.xs.length≤8∧x.Ai.xs.all Jo=true:=by
 unfold DI at h;simp only[Bool.and_eq_true,decide_eq_true_eq]at h;exact⟨h.1.1.1,h.1.2⟩
theorem NH{n:Nat}{x:Aq}(h:DI n x=true)(k:Int)(b:Bool):Dz x k b≤8:=Nat.le_trans List.countP_le_length (ML h)
theorem Jw{c:Aj}{k:Nat}(h:portOf (gd c.Ah.xs k)=0∨((gd c.Ah.xs k).Kind=1∧(gd c.Ah.xs k).Dy≠0)∨Iw c k true≠1∨Iw c k false<1∨4<Iw c k false):MQ c k=false:=by
 unfold MQ
 rcases h with h | ⟨h,h'⟩ | h | h | h
 ·simp[h]
 ·simp[h,h']
 ·simp[h]
 ·rw[decide_eq_false (show ¬ (1≤Iw c k false∧Iw c k false≤4)by omega)];simp
 rw[decide_eq_false (show ¬ (1≤Iw c k false∧Iw c k false≤4)by omega)];simp
theorem TT{c:Aj}{k:Nat}(h1:¬ portOf (gd c.Ah.xs k)=0)(h2:¬ ((gd c.Ah.xs k).Kind=1∧¬ (gd c.Ah.xs k).Dy=0))(h3:Iw c k true=1)(h4:1≤Iw c k false∧Iw c k false≤4):MQ c k=true:=by
 unfold MQ
 rw[decide_eq_true h3,decide_eq_true h4]
 simp[h1]
 by_cases e:(gd c.Ah.xs k).Kind=1
 ·exact .inr (Classical.not_not.1 (fun e2=>h2 ⟨e,e2⟩))
 exact .inl e
section
variable (z:Nat)(x:Aq)
abbrev RJ:=bk z (Aq.arr x) 52
abbrev RG:=(20,Ac x.Ai.xs.length)
abbrev Uo:=(53,Ac x.Ar.xs.length)
end
theorem Zi(w:World)(x:Aq)(n:Nat)(hx:Aq.ok Any w x):Calls Tryd.prog 53 #[.agg (Aq.arr x),.int .i64 (n:Int)] w fun e w'=>e = .returned (.bool (DI n x))∧CZ (fun _=>False) w w':=by
 obtain⟨z,hz⟩:∃ z,z=w.heap.size:=⟨_,rfl⟩
 refine Cb (args:=[.agg (Aq.arr x),Ac n]) 75 ⟨w,z,[(Ak w)]⟩ Tryd.func53 rfl (by kernel_rfl) (by kernel_rfl) (ES hz) ?_
 refine Ee [0,1] [(0,.agg (Aq.arr x)),(1,Ac n)] ?_
 refine q_c 6 0 [] [[o0,o0]] [] [(1,Ac n),(2,pt z)] ⟨w,z+1,[(Ak w),(RJ z x)]⟩ rfl Af ?_
 by_cases h1:(8:Int)<(x.Ai.xs.length:Int)
 ·refine Az 9 0 [1] [[o0,(a1 1),o0,oT,o0,o0],[o0]] [Qb z,BT ((x.Ai.xs.length:Int) > 8)] [(4,.bool false)] rfl ⟨rfl,bt,Af⟩ ?_
  refine AO [] [] (.bool false) Af ?_
  intro w2 hw2
  refine⟨congrArg (fun b=>Ending.returned (Value.bool b)) (Eq.symm (?_:DI n x=false)),Bi hw2⟩
  unfold DI
  first
   | (have e1:decide (x.Ai.xs.length≤8)=false:=decide_eq_false (by omega));simp[e1]
   | (have e1:decide (x.Ar.xs.length≤8)=false:=decide_eq_false (by omega));simp[e1]
 by_cases h3:(8:Int)<(x.Ar.xs.length:Int)
 ·refine Az 9 0 [1] [[o0,(a1 1),o0,oF,o0,o0,(a1 1),o0,oT,o0],[o0]] [Qb z,BF ((x.Ai.xs.length:Int) > 8),Qb z,BT ((x.Ar.xs.length:Int) > 8)] [(4,.bool false)] rfl ⟨rfl,bf,rfl,bt,Af⟩ ?_
  refine AO [] [] (.bool false) Af ?_
  intro w4 hw4
  refine⟨congrArg (fun b=>Ending.returned (Value.bool b)) (Eq.symm (?_:DI n x=false)),Bi hw4⟩
  unfold DI
  first
   | (have e1:decide (x.Ai.xs.length≤8)=false:=decide_eq_false (by omega));simp[e1]
   | (have e1:decide (x.Ar.xs.length≤8)=false:=decide_eq_false (by omega));simp[e1]
 refine Az 12 0 [0] [[o0,(a1 1),o0,oF,o0,o0,(a1 1),o0,oF,o0],[o0,(a1 1),o0,o0]] [Qb z,BF ((x.Ai.xs.length:Int) > 8),Qb z,BF ((x.Ar.xs.length:Int) > 8),Qb z] [(1,Ac n),(2,pt z),(RG x),(21,i6 0)] rfl ⟨rfl,bf,rfl,bf,rfl,Af⟩ ?_
 refine DY (fun m a w'=>∃ (n6:Nat) (k:Nat),m=x.Ai.xs.length - k∧z+1≤n6∧(k≤x.Ai.xs.length)∧(∀ i,i<k→Jo (gd x.Ai.xs i)=true)∧St 75 [(1,Ac n),(2,pt z),(RG x),(21,Ac k)] [] ⟨w,n6,[(Ak w),(RJ z x)]⟩ a w') (x.Ai.xs.length - 0) ?_ ?_
 ·intro a w' hs;exact⟨(z+1),0,rfl,Nat.le_refl _,Nat.zero_le _,fun i hi=>absurd hi (Nat.not_lt_zero i),hs⟩
 rintro m a w' ⟨n6,k,rfl,hn5,hkk,hr,hs⟩
 refine(?_:G Tryd.prog 75 [(1,Ac n),(2,pt z),(RG x),(21,Ac k)] [] ⟨w,n6,[(Ak w),(RJ z x)]⟩ _ _ _) a w' hs
 clear hs a w'
 refine DW ?_
 by_cases h7:(k:Int)<(x.Ai.xs.length:Int)
 ·refine Az 14 0 [1] [[oT],[o0,o0]] [BT ((k:Int)<(x.Ai.xs.length:Int))] [(1,Ac n),(2,pt z),(RG x),(21,Ac k),(5,Ac k)] rfl ⟨bt,Af⟩ ?_
  obtain⟨b8,o9,ha10,hF12,hc11⟩:=(hx.Ai).1.all (show 0<x.Ai.xs.length by omega)
  replace ha10:x.Ai.a=some ⟨b8,o9,none⟩:=ha10
  have hc13:=hc11 k (show k<x.Ai.xs.length by omega)
  have he14:=(hx.Ai).2 k (show k<x.Ai.xs.length by omega)
  obtain⟨y15,hy15⟩:∃ y_,y_=gd x.Ai.xs k:=⟨_,rfl⟩
  rw[←hy15]at he14 hc13
  refine q_c 4 0 [] [[o0,(Gy 1 b8 o9 x.Ai),o0,(oi k),(ol 0 (BD.arr y15)),o0,(an 4 2)]] [Qb z,FO b8 o9 x.Ai,DJ k,k<x.Ai.xs.length,Di,He w b8 (o9+k*4) (BD.arr y15),Qb n6,Qb n6,Qb n6,Qb n6] [(1,Ac n),(2,pt z),(RG x),(21,Ac k),(6,pt n6)] ⟨w,n6+1,[(Ak w),(RJ z x),(bk n6 (BD.arr y15) 103)]⟩ rfl ⟨rfl,FP ha10,rfl,(by omega),rfl,EH hc13,rfl,rfl,rfl,rfl,Af⟩ ?_
  by_cases h16:(y15.BP:Int)<0
  ·refine Az 9 0 [1] [[o0,(a1 2),oT,o0,o0,o0,o0,o0,o0],[o0]] [Qb n6,BT ((y15.BP:Int)<0)] [(4,.bool false)] rfl ⟨rfl,bt,Af⟩ ?_
   refine AO [] [] (.bool false) Af ?_
   intro w17 hw17
   refine⟨congrArg (fun b=>Ending.returned (Value.bool b)) (Eq.symm (?_:DI n x=false)),Bi hw17⟩
   unfold DI
   have e1:x.Ai.xs.all Jo=false:=Md (k:=k) (by omega) (by rw[←hy15];exact decide_eq_false (by omega))
   simp[e1]
  by_cases h18:(256:Int)<y15.BP
  ·refine Az 9 0 [1] [[o0,(a1 2),oF,o0,o0,(a1 2),oT,o0,o0,o0,o0,o0],[o0]] [Qb n6,BF ((y15.BP:Int)<0),Qb n6,BT ((y15.BP:Int) > 256)] [(4,.bool false)] rfl ⟨rfl,bf,rfl,bt,Af⟩ ?_
   refine AO [] [] (.bool false) Af ?_
   intro w19 hw19
   refine⟨congrArg (fun b=>Ending.returned (Value.bool b)) (Eq.symm (?_:DI n x=false)),Bi hw19⟩
   unfold DI
   have e1:x.Ai.xs.all Jo=false:=Md (k:=k) (by omega) (by rw[←hy15];exact decide_eq_false (by omega))
   simp[e1]
  by_cases h20:(y15.BH:Int)<1
  ·refine Az 9 0 [1] [[o0,(a1 2),oF,o0,o0,(a1 2),oF,o0,o0,o0,(a1 2),oT,o0,o0,o0],[o0]] [Qb n6,BF ((y15.BP:Int)<0),Qb n6,BF ((y15.BP:Int) > 256),Qb n6,BT ((y15.BH:Int)<1)] [(4,.bool false)] rfl ⟨rfl,bf,rfl,bf,rfl,bt,Af⟩ ?_
   refine AO [] [] (.bool false) Af ?_
   intro w21 hw21
   refine⟨congrArg (fun b=>Ending.returned (Value.bool b)) (Eq.symm (?_:DI n x=false)),Bi hw21⟩
   unfold DI
   have e1:x.Ai.xs.all Jo=false:=Md (k:=k) (by omega) (by rw[←hy15];exact decide_eq_false (by omega))
   simp[e1]
  by_cases h22:(256 - y15.BP:Int)<y15.BH
  ·refine Az 9 0 [1] [[o0,(a1 2),oF,o0,o0,(a1 2),oF,o0,o0,o0,(a1 2),oF,o0,o0,o0,(a1 2),o0,(a1 2),(ov (i6 (256 - y15.BP))),oT,o0],[o0]] [Qb n6,BF ((y15.BP:Int)<0),Qb n6,BF ((y15.BP:Int) > 256),Qb n6,BF ((y15.BH:Int)<1),Qb n6,Qb n6,Wr ((256:Int) - y15.BP) (256 - y15.BP),BT ((y15.BH:Int) > (256 - y15.BP))] [(4,.bool false)] rfl ⟨rfl,bf,rfl,bf,rfl,bf,rfl,rfl,CB,bt,Af⟩ ?_
   refine AO [] [] (.bool false) Af ?_
   intro w23 hw23
   refine⟨congrArg (fun b=>Ending.returned (Value.bool b)) (Eq.symm (?_:DI n x=false)),Bi hw23⟩
   unfold DI
   have e1:x.Ai.xs.all Jo=false:=Md (k:=k) (by omega) (by rw[←hy15];exact decide_eq_false (by omega))
   simp[e1]
  refine Az 9 0 [0] [[o0,(a1 2),oF,o0,o0,(a1 2),oF,o0,o0,o0,(a1 2),oF,o0,o0,o0,(a1 2),o0,(a1 2),(ov (i6 (256 - y15.BP))),oF,o0],[(ov (i6 ((k+1:Nat):Int))),o0]] [Qb n6,BF ((y15.BP:Int)<0),Qb n6,BF ((y15.BP:Int) > 256),Qb n6,BF ((y15.BH:Int)<1),Qb n6,Qb n6,Wr ((256:Int) - y15.BP) (256 - y15.BP),BF ((y15.BH:Int) > (256 - y15.BP)),Wr ((k:Int)+1) (((k+1:Nat):Int))] [(1,Ac n),(2,pt z),(RG x),(21,i6 ((k+1:Nat):Int))] rfl ⟨rfl,bf,rfl,bf,rfl,bf,rfl,rfl,CB,bf,CB,Af⟩ ?_
  refine BX [0,1] [(Ak w),(RJ z x)] rfl rfl ?_
  refine BR [1,2,20,21] [(1,Ac n),(2,pt z),(RG x),(21,i6 ((k+1:Nat):Int))] ?_
  refine Cf (fun a w' hs=>⟨x.Ai.xs.length - (k+1),by omega,(n6+1),(k+1),rfl,by omega,by omega,upto hr (by rw[←hy15];exact decide_eq_true (by omega)),hs⟩)
 refine Az 16 0 [0] [[oF],[o0,(a1 1),o0,o0]] [BF ((k:Int)<(x.Ai.xs.length:Int)),Qb z] [(1,Ac n),(2,pt z),(Uo x),(54,i6 0)] rfl ⟨bf,rfl,Af⟩ ?_
 refine DY (fun m a w'=>∃ (n25:Nat) (j:Nat),m=x.Ar.xs.length - j∧n6≤n25∧(j≤x.Ar.xs.length)∧(∀ i,i<j→PL n (gd x.Ar.xs i)=true)∧St 75 [(1,Ac n),(2,pt z),(Uo x),(54,Ac j)] [] ⟨w,n25,[(Ak w),(RJ z x)]⟩ a w') (x.Ar.xs.length - 0) ?_ ?_
 ·intro a w' hs;exact⟨n6,0,rfl,Nat.le_refl _,Nat.zero_le _,fun i hi=>absurd hi (Nat.not_lt_zero i),hs⟩
 rintro m a w' ⟨n25,j,rfl,hn24,hkj,hp,hs⟩
 refine(?_:G Tryd.prog 75 [(1,Ac n),(2,pt z),(Uo x),(54,Ac j)] [] ⟨w,n25,[(Ak w),(RJ z x)]⟩ _ _ _) a w' hs
 clear hs a w'
 refine DW ?_
 by_cases h26:(j:Int)<(x.Ar.xs.length:Int)
 ·refine Az 14 0 [1] [[oT],[o0,o0]] [BT ((j:Int)<(x.Ar.xs.length:Int))] [(1,Ac n),(2,pt z),(Uo x),(54,Ac j),(7,Ac j)] rfl ⟨bt,Af⟩ ?_
  obtain⟨b27,o28,ha29,hF31,hc30⟩:=(hx.Ar).1.all (show 0<x.Ar.xs.length by omega)
  replace ha29:x.Ar.a=some ⟨b27,o28,none⟩:=ha29
  have hc32:=hc30 j (show j<x.Ar.xs.length by omega)
  have he33:=(hx.Ar).2 j (show j<x.Ar.xs.length by omega)
  obtain⟨y34,hy34⟩:∃ y_,y_=gd x.Ar.xs j:=⟨_,rfl⟩
  rw[←hy34]at he33 hc32
  by_cases h35:(y34.Channel:Int)<0
  ·refine Az 9 0 [1] [[o0,(Gy 1 b27 o28 x.Ar),o0,(oi j),o0,(oa [.via 0 (i6 y34.Channel)]),oT,o0,o0],[o0]] [Qb z,FO b27 o28 x.Ar,DJ j,j<x.Ar.xs.length,Di,Old w b27 (o28+j*2) (i6 y34.Channel),BT ((y34.Channel:Int)<0)] [(4,.bool false)] rfl ⟨rfl,FP ha29,rfl,(by omega),rfl,Aw (hc32 0 _ rfl),bt,Af⟩ ?_
   refine AO [] [] (.bool false) Af ?_
   intro w36 hw36
   refine⟨congrArg (fun b=>Ending.returned (Value.bool b)) (Eq.symm (?_:DI n x=false)),Bi hw36⟩
   unfold DI
   have e1:x.Ar.xs.all (PL n)=false:=Md (k:=j) (by omega) (by rw[←hy34];exact decide_eq_false (by omega))
   simp[e1]
  by_cases h37:(y34.Channel:Int)<(n:Int)
  ·refine Az 9 0 [0] [[o0,(Gy 1 b27 o28 x.Ar),o0,(oi j),o0,(oa [.via 0 (i6 y34.Channel)]),oF,o0,o0,(Gy 1 b27 o28 x.Ar),o0,(oi j),o0,(oa [.via 0 (i6 y34.Channel)]),o0,oF,o0],[(ov (i6 ((j+1:Nat):Int))),o0]] [Qb z,FO b27 o28 x.Ar,DJ j,j<x.Ar.xs.length,Di,Old w b27 (o28+j*2) (i6 y34.Channel),BF ((y34.Channel:Int)<0),Qb z,FO b27 o28 x.Ar,DJ j,j<x.Ar.xs.length,Di,Old w b27 (o28+j*2) (i6 y34.Channel),BF ((y34.Channel:Int)≥(n:Int)),Wr ((j:Int)+1) (((j+1:Nat):Int))] [(1,Ac n),(2,pt z),(Uo x),(54,i6 ((j+1:Nat):Int))] rfl ⟨rfl,FP ha29,rfl,(by omega),rfl,Aw (hc32 0 _ rfl),bf,rfl,FP ha29,rfl,(by omega),rfl,Aw (hc32 0 _ rfl),bf,CB,Af⟩ ?_
   refine Cf (fun a w' hs=>⟨x.Ar.xs.length - (j+1),by omega,n25,(j+1),rfl,by omega,by omega,upto hp (by rw[←hy34];exact decide_eq_true (by omega)),hs⟩)
  refine Az 9 0 [1] [[o0,(Gy 1 b27 o28 x.Ar),o0,(oi j),o0,(oa [.via 0 (i6 y34.Channel)]),oF,o0,o0,(Gy 1 b27 o28 x.Ar),o0,(oi j),o0,(oa [.via 0 (i6 y34.Channel)]),o0,oT,o0],[o0]] [Qb z,FO b27 o28 x.Ar,DJ j,j<x.Ar.xs.length,Di,Old w b27 (o28+j*2) (i6 y34.Channel),BF ((y34.Channel:Int)<0),Qb z,FO b27 o28 x.Ar,DJ j,j<x.Ar.xs.length,Di,Old w b27 (o28+j*2) (i6 y34.Channel),BT ((y34.Channel:Int)≥(n:Int))] [(4,.bool false)] rfl ⟨rfl,FP ha29,rfl,(by omega),rfl,Aw (hc32 0 _ rfl),bf,rfl,FP ha29,rfl,(by omega),rfl,Aw (hc32 0 _ rfl),bt,Af⟩ ?_
  refine AO [] [] (.bool false) Af ?_
  intro w38 hw38
  refine⟨congrArg (fun b=>Ending.returned (Value.bool b)) (Eq.symm (?_:DI n x=false)),Bi hw38⟩
  unfold DI
  have e1:x.Ar.xs.all (PL n)=false:=Md (k:=j) (by omega) (by rw[←hy34];exact decide_eq_false (by omega))
  simp[e1]
 refine Az 15 0 [0] [[oF],[o0]] [BF ((j:Int)<(x.Ar.xs.length:Int))] [(4,.bool true)] rfl ⟨bf,Af⟩ ?_
 refine AO [] [] (.bool true) Af ?_
 intro w39 hw39
 refine⟨congrArg (fun b=>Ending.returned (Value.bool b)) (Eq.symm (?_:DI n x=true)),Bi hw39⟩
 have e1:x.Ai.xs.all Jo=true:=SB (fun i hi=>hr i (by omega))
 have e2:x.Ar.xs.all (PL n)=true:=SB (fun i hi=>hp i (by omega))
 simp only[DI,e1,e2,Bool.and_true,Bool.and_eq_true,decide_eq_true_eq]
 omega
section
variable (x:Aq)(j:Nat)(ch:Int)(b:Bool)
abbrev Qx:=(7,i6 ((((x.Ar.xs.take j).countP (Hz ch b))+1:Nat):Int))
abbrev L9:=(7,i6 (((x.Ar.xs.take j).countP (Hz ch b):Nat):Int))
abbrev Jq:=(11,Ac x.Ar.xs.length)
abbrev KC:=(12,i6 ((j+1:Nat):Int))
end
theorem Qh(w:World)(x:Aq)(ch:Int)(b:Bool)(hx:Aq.ok Any w x):Calls Tryd.prog 55 #[.agg (Aq.arr x),.int .i64 ch,.bool b] w fun e w'=>e = .returned (.int .i64 (Dz x ch b:Nat))∧CZ (fun _=>False) w w':=by
 obtain⟨z,hz⟩:∃ z,z=w.heap.size:=⟨_,rfl⟩
 refine Cb (args:=[.agg (Aq.arr x),i6 ch,.bool b]) 37 ⟨w,z,[(Ak w)]⟩ Tryd.func55 rfl (by kernel_rfl) (by kernel_rfl) (ES hz) ?_
 have hlP:=hx.Ar.1.len
 refine Ee [0,1,2] [(0,.agg (Aq.arr x)),(1,i6 ch),(2,.bool b)] ?_
 refine q_c 14 0 [] [[o0,o0],[o0],[o0,(a1 1),o0,o0]] [Qb z] [(1,i6 ch),(2,.bool b),(3,pt z),(7,i6 0),(Jq x),(12,i6 0)] ⟨w,z+1,[(Ak w),(bk z (Aq.arr x) 52)]⟩ rfl ⟨rfl,Af⟩ ?_
 refine DY (fun m a w'=>∃ (n2:Nat) (j:Nat),m=x.Ar.xs.length - j∧z+1≤n2∧(j≤x.Ar.xs.length)∧St 37 [(1,i6 ch),(2,.bool b),(3,pt z),(L9 x j ch b),(Jq x),(12,Ac j)] [] ⟨w,n2,[(Ak w),(bk z (Aq.arr x) 52)]⟩ a w') (x.Ar.xs.length - 0) ?_ ?_
 ·intro a w' hs;exact⟨(z+1),0,rfl,Nat.le_refl _,Nat.zero_le _,hs⟩
 rintro m a w' ⟨n2,j,rfl,hn1,hkj,hs⟩
 refine(?_:G Tryd.prog 37 [(1,i6 ch),(2,.bool b),(3,pt z),(L9 x j ch b),(Jq x),(12,Ac j)] [] ⟨w,n2,[(Ak w),(bk z (Aq.arr x) 52)]⟩ _ _ _) a w' hs
 clear hs a w'
 have hcl:(x.Ar.xs.take j).countP (Hz ch b)≤j:=cnt_le
 refine DW ?_
 by_cases h3:(j:Int)<(x.Ar.xs.length:Int)
 ·refine Az 14 0 [1] [[oT],[o0,o0]] [BT ((j:Int)<(x.Ar.xs.length:Int))] [(1,i6 ch),(2,.bool b),(3,pt z),(L9 x j ch b),(Jq x),(12,Ac j),(8,Ac j)] rfl ⟨bt,Af⟩ ?_
  obtain⟨b4,o5,ha6,hF8,hc7⟩:=(hx.Ar).1.all (show 0<x.Ar.xs.length by omega)
  replace ha6:x.Ar.a=some ⟨b4,o5,none⟩:=ha6
  have hc9:=hc7 j (show j<x.Ar.xs.length by omega)
  have he10:=(hx.Ar).2 j (show j<x.Ar.xs.length by omega)
  obtain⟨y11,hy11⟩:∃ y_,y_=gd x.Ar.xs j:=⟨_,rfl⟩
  rw[←hy11]at he10 hc9
  by_cases h12:(y11.Channel:Int)=ch
  ·by_cases h13:y11.Source=true
   ·by_cases h14:b=true
    ·refine Az 10 0 [1] [[o0,(Gy 1 b4 o5 x.Ar),o0,(oi j),o0,(oa [.via 0 (i6 y11.Channel)]),o0,oT,o0,o0,(Gy 1 b4 o5 x.Ar),o0,(oi j),o0,(oa [.via 0 (.bool y11.Source)]),(ov (.bool true)),(ov (.bool true)),o0],[o0,(ov (i6 ((((x.Ar.xs.take j).countP (Hz ch b))+1:Nat):Int))),o0],[(ov (i6 ((j+1:Nat):Int))),o0]] [Qb z,FO b4 o5 x.Ar,DJ j,j<x.Ar.xs.length,Di,Old w b4 (o5+j*2) (i6 y11.Channel),ET y11.Channel ch,Qb z,FO b4 o5 x.Ar,DJ j,j<x.Ar.xs.length,Di,Old w b4 (o5+j*2+1) (.bool y11.Source),Value.bool b=Value.bool true,Value.bool ((y11.Source==true))=Value.bool true,Wr (((((x.Ar.xs.take j).countP (Hz ch b):Nat):Int):Int)+1) (((((x.Ar.xs.take j).countP (Hz ch b))+1:Nat):Int)),Wr ((j:Int)+1) (((j+1:Nat):Int))] [(1,i6 ch),(2,.bool b),(3,pt z),(Qx x j ch b),(Jq x),(KC j)] rfl ⟨rfl,FP ha6,rfl,(by omega),rfl,Aw (hc9 0 _ rfl),et,rfl,FP ha6,rfl,(by omega),rfl,Aw (hc9 1 _ rfl),(congrArg Value.bool h14),by simp[h13],CB,CB,Af⟩ ?_
     have hT:=Z9 (p:=Hz ch b) (show j<x.Ar.xs.length by omega) (by rw[←hy11];exact Vq (by omega) (by revert h13 h14;cases y11.Source <;> cases b <;> simp))
     refine BR [1,2,3,7,11,12] [(1,i6 ch),(2,.bool b),(3,pt z),(Qx x j ch b),(Jq x),(KC j)] ?_
     refine Cf (fun a w' hs=>⟨x.Ar.xs.length - (j+1),by omega,n2,(j+1),rfl,by omega,by omega,by(try dsimp only[Qx,L9,Jq,KC]at hs ⊢);rw[hT];exact hs⟩)
    refine Az 9 0 [0] [[o0,(Gy 1 b4 o5 x.Ar),o0,(oi j),o0,(oa [.via 0 (i6 y11.Channel)]),o0,oT,o0,o0,(Gy 1 b4 o5 x.Ar),o0,(oi j),o0,(oa [.via 0 (.bool y11.Source)]),(ov (.bool false)),(ov (.bool false)),o0],[(ov (i6 ((j+1:Nat):Int))),o0]] [Qb z,FO b4 o5 x.Ar,DJ j,j<x.Ar.xs.length,Di,Old w b4 (o5+j*2) (i6 y11.Channel),ET y11.Channel ch,Qb z,FO b4 o5 x.Ar,DJ j,j<x.Ar.xs.length,Di,Old w b4 (o5+j*2+1) (.bool y11.Source),Value.bool b=Value.bool false,Value.bool ((y11.Source==false))=Value.bool false,Wr ((j:Int)+1) (((j+1:Nat):Int))] [(1,i6 ch),(2,.bool b),(3,pt z),(L9 x j ch b),(Jq x),(KC j)] rfl ⟨rfl,FP ha6,rfl,(by omega),rfl,Aw (hc9 0 _ rfl),et,rfl,FP ha6,rfl,(by omega),rfl,Aw (hc9 1 _ rfl),(congrArg Value.bool (Bool.eq_false_iff.2 h14)),by simp[h13],CB,Af⟩ ?_
    have hT:=Y1 (p:=Hz ch b) (show j<x.Ar.xs.length by omega) (by rw[←hy11];exact Ti (by revert h13 h14;cases y11.Source <;> cases b <;> simp))
    refine BR [1,2,3,7,11,12] [(1,i6 ch),(2,.bool b),(3,pt z),(L9 x j ch b),(Jq x),(KC j)] ?_
    refine Cf (fun a w' hs=>⟨x.Ar.xs.length - (j+1),by omega,n2,(j+1),rfl,by omega,by omega,by(try dsimp only[Qx,L9,Jq,KC]at hs ⊢);rw[hT];exact hs⟩)
   by_cases h15:b=true
   ·refine Az 9 0 [0] [[o0,(Gy 1 b4 o5 x.Ar),o0,(oi j),o0,(oa [.via 0 (i6 y11.Channel)]),o0,oT,o0,o0,(Gy 1 b4 o5 x.Ar),o0,(oi j),o0,(oa [.via 0 (.bool y11.Source)]),(ov (.bool true)),(ov (.bool false)),o0],[(ov (i6 ((j+1:Nat):Int))),o0]] [Qb z,FO b4 o5 x.Ar,DJ j,j<x.Ar.xs.length,Di,Old w b4 (o5+j*2) (i6 y11.Channel),ET y11.Channel ch,Qb z,FO b4 o5 x.Ar,DJ j,j<x.Ar.xs.length,Di,Old w b4 (o5+j*2+1) (.bool y11.Source),Value.bool b=Value.bool true,Value.bool ((y11.Source==true))=Value.bool false,Wr ((j:Int)+1) (((j+1:Nat):Int))] [(1,i6 ch),(2,.bool b),(3,pt z),(L9 x j ch b),(Jq x),(KC j)] rfl ⟨rfl,FP ha6,rfl,(by omega),rfl,Aw (hc9 0 _ rfl),et,rfl,FP ha6,rfl,(by omega),rfl,Aw (hc9 1 _ rfl),(congrArg Value.bool h15),by simp[h13],CB,Af⟩ ?_
    have hT:=Y1 (p:=Hz ch b) (show j<x.Ar.xs.length by omega) (by rw[←hy11];exact Ti (by revert h13 h15;cases y11.Source <;> cases b <;> simp))
    refine BR [1,2,3,7,11,12] [(1,i6 ch),(2,.bool b),(3,pt z),(L9 x j ch b),(Jq x),(KC j)] ?_
    refine Cf (fun a w' hs=>⟨x.Ar.xs.length - (j+1),by omega,n2,(j+1),rfl,by omega,by omega,by(try dsimp only[Qx,L9,Jq,KC]at hs ⊢);rw[hT];exact hs⟩)
   refine Az 10 0 [1] [[o0,(Gy 1 b4 o5 x.Ar),o0,(oi j),o0,(oa [.via 0 (i6 y11.Channel)]),o0,oT,o0,o0,(Gy 1 b4 o5 x.Ar),o0,(oi j),o0,(oa [.via 0 (.bool y11.Source)]),(ov (.bool false)),(ov (.bool true)),o0],[o0,(ov (i6 ((((x.Ar.xs.take j).countP (Hz ch b))+1:Nat):Int))),o0],[(ov (i6 ((j+1:Nat):Int))),o0]] [Qb z,FO b4 o5 x.Ar,DJ j,j<x.Ar.xs.length,Di,Old w b4 (o5+j*2) (i6 y11.Channel),ET y11.Channel ch,Qb z,FO b4 o5 x.Ar,DJ j,j<x.Ar.xs.length,Di,Old w b4 (o5+j*2+1) (.bool y11.Source),Value.bool b=Value.bool false,Value.bool ((y11.Source==false))=Value.bool true,Wr (((((x.Ar.xs.take j).countP (Hz ch b):Nat):Int):Int)+1) (((((x.Ar.xs.take j).countP (Hz ch b))+1:Nat):Int)),Wr ((j:Int)+1) (((j+1:Nat):Int))] [(1,i6 ch),(2,.bool b),(3,pt z),(Qx x j ch b),(Jq x),(KC j)] rfl ⟨rfl,FP ha6,rfl,(by omega),rfl,Aw (hc9 0 _ rfl),et,rfl,FP ha6,rfl,(by omega),rfl,Aw (hc9 1 _ rfl),(congrArg Value.bool (Bool.eq_false_iff.2 h15)),by simp[h13],CB,CB,Af⟩ ?_
   have hT:=Z9 (p:=Hz ch b) (show j<x.Ar.xs.length by omega) (by rw[←hy11];exact Vq (by omega) (by revert h13 h15;cases y11.Source <;> cases b <;> simp))
   refine BR [1,2,3,7,11,12] [(1,i6 ch),(2,.bool b),(3,pt z),(Qx x j ch b),(Jq x),(KC j)] ?_
   refine Cf (fun a w' hs=>⟨x.Ar.xs.length - (j+1),by omega,n2,(j+1),rfl,by omega,by omega,by(try dsimp only[Qx,L9,Jq,KC]at hs ⊢);rw[hT];exact hs⟩)
  refine Az 9 0 [0] [[o0,(Gy 1 b4 o5 x.Ar),o0,(oi j),o0,(oa [.via 0 (i6 y11.Channel)]),o0,oF,o0,o0],[(ov (i6 ((j+1:Nat):Int))),o0]] [Qb z,FO b4 o5 x.Ar,DJ j,j<x.Ar.xs.length,Di,Old w b4 (o5+j*2) (i6 y11.Channel),EF y11.Channel ch,Wr ((j:Int)+1) (((j+1:Nat):Int))] [(1,i6 ch),(2,.bool b),(3,pt z),(L9 x j ch b),(Jq x),(KC j)] rfl ⟨rfl,FP ha6,rfl,(by omega),rfl,Aw (hc9 0 _ rfl),ef,CB,Af⟩ ?_
  have hT:=Y1 (p:=Hz ch b) (show j<x.Ar.xs.length by omega) (by rw[←hy11];exact UE (by omega))
  refine BR [1,2,3,7,11,12] [(1,i6 ch),(2,.bool b),(3,pt z),(L9 x j ch b),(Jq x),(KC j)] ?_
  refine Cf (fun a w' hs=>⟨x.Ar.xs.length - (j+1),by omega,n2,(j+1),rfl,by omega,by omega,by(try dsimp only[L9,Jq,KC]at hs ⊢);rw[hT];exact hs⟩)
 refine Az 15 0 [0] [[oF],[o0,o0]] [BF ((j:Int)<(x.Ar.xs.length:Int))] [(6,i6 (((x.Ar.xs.take j).countP (Hz ch b):Nat):Int))] rfl ⟨bf,Af⟩ ?_
 refine AO [] [] (i6 (((x.Ar.xs.take j).countP (Hz ch b):Nat):Int)) Af ?_
 intro w16 hw16
 refine⟨congrArg (fun n=>Ending.returned (i6 n)) (?_:((((x.Ar.xs.take j).countP (Hz ch b):Nat):Int):Int)=(Dz x ch b:Int)),Bi hw16⟩
 rw[show j=x.Ar.xs.length by omega,List.take_length];rfl
section
variable (n25:Nat)(y34:AP)(z:Nat)(c:Aj)(k2 k3:Nat)(y52 y76:Aq)
abbrev Ru:=bk n25 (AP.arr y34) 115
abbrev KH:=bk z (Aj.arr c) 26
abbrev WF:=(6,i6 (((Fh (fun x=>Dz x (k2:Int) true) c.Aa.xs k3)+(Dz y52 (k2:Int) true):Nat):Int))
abbrev WB:=(6,i6 (((Fh (fun x=>Dz x (k2:Int) true) c.Aa.xs k3)+(Dz y76 (k2:Int) true):Nat):Int))
abbrev MV:=(7,i6 ((Fh (fun x=>Dz x (k2:Int) false) c.Aa.xs k3:Nat):Int))
abbrev Oo:=(6,i6 ((Fh (fun x=>Dz x (k2:Int) true) c.Aa.xs k3:Nat):Int))
abbrev NQ:=(31,Ac c.Aa.xs.length)
abbrev Jf:=(72,Ac c.Aa.xs.length)
abbrev Gn:=(48,Ac c.Ah.xs.length)
end
theorem ZU(w:World)(c:Aj)(hc:Aj.ok Any w c):Calls Tryd.prog 30 #[.agg (Aj.arr c)] w fun e w'=>e = .returned (.bool (Eh c))∧CZ (fun _=>False) w w':=by
 obtain⟨z,hz⟩:∃ z,z=w.heap.size:=⟨_,rfl⟩
 refine Cb (args:=[.agg (Aj.arr c)]) 106 ⟨w,z,[(Ak w)]⟩ Tryd.func30 rfl (by kernel_rfl) (by kernel_rfl) (ES hz) ?_
 have hlC:=hc.Ah.1.len
 refine Ee [0] [(0,.agg (Aj.arr c))] ?_
 refine q_c 6 0 [] [[o0,o0]] [] [(1,pt z)] ⟨w,z+1,[(Ak w),(KH z c)]⟩ rfl Af ?_
 by_cases h1:(c.Kernel:Int)<0
 ·refine Az 9 0 [1] [[o0,(a1 1),oT,o0,o0,o0,o0,o0,o0],[o0]] [Qb z,BT ((c.Kernel:Int)<0)] [(2,.bool false)] rfl ⟨rfl,bt,Af⟩ ?_
  refine AO [] [] (.bool false) Af ?_
  intro w2 hw2
  refine⟨congrArg (fun b=>Ending.returned (Value.bool b)) (Eq.symm (?_:Eh c=false)),Bi hw2⟩
  exact NS (by omega)
 by_cases h3:(c.Kernel:Int)<1024
 ·by_cases h4:(8:Int)<(c.Aa.xs.length:Int)
  ·refine Az 9 0 [1] [[o0,(a1 1),oF,o0,o0,(a1 1),oF,o0,o0,o0,(a1 1),o0,oT,o0,o0,o0],[o0]] [Qb z,BF ((c.Kernel:Int)<0),Qb z,BF ((c.Kernel:Int)≥1024),Qb z,BT ((c.Aa.xs.length:Int) > 8)] [(2,.bool false)] rfl ⟨rfl,bf,rfl,bf,rfl,bt,Af⟩ ?_
   refine AO [] [] (.bool false) Af ?_
   intro w5 hw5
   refine⟨congrArg (fun b=>Ending.returned (Value.bool b)) (Eq.symm (?_:Eh c=false)),Bi hw5⟩
   exact NS (by omega)
  by_cases h6:(16:Int)<(c.Ah.xs.length:Int)
  ·refine Az 9 0 [1] [[o0,(a1 1),oF,o0,o0,(a1 1),oF,o0,o0,o0,(a1 1),o0,oF,o0,o0,o0,(a1 1),o0,oT,o0],[o0]] [Qb z,BF ((c.Kernel:Int)<0),Qb z,BF ((c.Kernel:Int)≥1024),Qb z,BF ((c.Aa.xs.length:Int) > 8),Qb z,BT ((c.Ah.xs.length:Int) > 16)] [(2,.bool false)] rfl ⟨rfl,bf,rfl,bf,rfl,bf,rfl,bt,Af⟩ ?_
   refine AO [] [] (.bool false) Af ?_
   intro w7 hw7
   refine⟨congrArg (fun b=>Ending.returned (Value.bool b)) (Eq.symm (?_:Eh c=false)),Bi hw7⟩
   exact NS (by omega)
  refine Az 12 0 [0] [[o0,(a1 1),oF,o0,o0,(a1 1),oF,o0,o0,o0,(a1 1),o0,oF,o0,o0,o0,(a1 1),o0,oF,o0],[o0,(a1 1),o0,o0]] [Qb z,BF ((c.Kernel:Int)<0),Qb z,BF ((c.Kernel:Int)≥1024),Qb z,BF ((c.Aa.xs.length:Int) > 8),Qb z,BF ((c.Ah.xs.length:Int) > 16),Qb z] [(1,pt z),(NQ c),(32,i6 0)] rfl ⟨rfl,bf,rfl,bf,rfl,bf,rfl,bf,rfl,Af⟩ ?_
  refine DY (fun m a w'=>∃ (n9:Nat) (k:Nat),m=c.Aa.xs.length - k∧z+1≤n9∧(k≤c.Aa.xs.length)∧(∀ i,i<k→DI c.Ah.xs.length (gd c.Aa.xs i)=true)∧St 106 [(1,pt z),(NQ c),(32,Ac k)] [] ⟨w,n9,[(Ak w),(KH z c)]⟩ a w') (c.Aa.xs.length - 0) ?_ ?_
  ·intro a w' hs;exact⟨(z+1),0,rfl,Nat.le_refl _,Nat.zero_le _,fun i hi=>absurd hi (Nat.not_lt_zero i),hs⟩
  rintro m a w' ⟨n9,k,rfl,hn8,hkk,hp,hs⟩
  refine(?_:G Tryd.prog 106 [(1,pt z),(NQ c),(32,Ac k)] [] ⟨w,n9,[(Ak w),(KH z c)]⟩ _ _ _) a w' hs
  clear hs a w'
  refine DW ?_
  by_cases h10:(k:Int)<(c.Aa.xs.length:Int)
  ·refine Az 14 0 [1] [[oT],[o0,o0]] [BT ((k:Int)<(c.Aa.xs.length:Int))] [(1,pt z),(NQ c),(32,Ac k),(3,Ac k)] rfl ⟨bt,Af⟩ ?_
   obtain⟨b11,o12,ha13,hF15,hc14⟩:=(hc.Aa).1.all (show 0<c.Aa.xs.length by omega)
   replace ha13:c.Aa.a=some ⟨b11,o12,none⟩:=ha13
   have hc16:=hc14 k (show k<c.Aa.xs.length by omega)
   have he17:=(hc.Aa).2 k (show k<c.Aa.xs.length by omega)
   obtain⟨y18,hy18⟩:∃ y_,y_=gd c.Aa.xs k:=⟨_,rfl⟩
   rw[←hy18]at he17 hc16
   refine Eo 10 [0,1] [(Ak w),(KH z c)] rfl rfl ?_
   refine D6 [(0,o0),(1,(Gy 1 b11 o12 c.Aa)),(2,o0),(3,(oi k)),(4,(ol 0 (Aq.arr y18))),(5,o0),(6,(a1 1)),(7,o0)] [1,31,32,39,42] [Qb z,FO b11 o12 c.Aa,DJ k,k<c.Aa.xs.length,Di,He w b11 (o12+k*8) (Aq.arr y18),Qb z] (DC 8 2) [(1,pt z),(NQ c),(32,Ac k),(39,.agg (Aq.arr y18)),(42,Ac c.Ah.xs.length)] ⟨rfl,FP ha13,rfl,(by omega),rfl,EH hc16,rfl,Af⟩ ?_
   refine Bv 8 ?_
   refine Ii [] [] 53 #[.agg (Aq.arr y18),Ac c.Ah.xs.length] (some 43) (by as_aux_lemma=>kernel_rfl) rfl rfl Af ?_
   intro w19 hw19
   refine(Zi w19 y18 c.Ah.xs.length (he17.ext (hw19.ext rfl) (fun _ h=>h))).mono ?_
   rintro e w20 ⟨rfl,hkw20⟩
   have hnw20:n9≤w20.heap.size:=Ik hw19 hkw20
   have hs21:=hw19.keeps hkw20
   refine⟨_,_,rfl,hs21,.inr (fun c hc=>hs21.all c (by first | exact hc | exact Ei (is:=[0,1]) rfl c hc)), ?_⟩
   refine Dt [1,31,32,43] [(1,pt z),(NQ c),(32,Ac k),(43,.bool (DI c.Ah.xs.length y18))] ?_
   by_cases h22:(DI c.Ah.xs.length y18)=true
   ·refine D6 [(9,(ov (.bool false)))] [1,31,32,44] [Value.bool (!(DI c.Ah.xs.length y18))=Value.bool false] (DC 10 0) [(1,pt z),(NQ c),(32,Ac k),(44,.bool false)] ⟨by simp[h22],Af⟩ ?_
    refine Dl ?_
    refine Oi 7 0 [0] [[(ov (i6 ((k+1:Nat):Int))),o0]] [Wr ((k:Int)+1) (((k+1:Nat):Int))] [(1,pt z),(NQ c),(32,i6 ((k+1:Nat):Int))] rfl ⟨CB,Af⟩ ?_
    refine Cf (fun a w' hs=>⟨c.Aa.xs.length - (k+1),by omega,w20.heap.size,(k+1),rfl,by omega,by omega,upto hp (by rw[←hy18];exact h22),hs⟩)
   refine D6 [(9,(ov (.bool true)))] [1,31,32,44] [Value.bool (!(DI c.Ah.xs.length y18))=Value.bool true] (DC 10 0) [(1,pt z),(NQ c),(32,Ac k),(44,.bool true)] ⟨by simp[h22],Af⟩ ?_
   refine Dl ?_
   refine Oi 7 0 [1] [[o0]] [] [(2,.bool false)] rfl Af ?_
   refine AO [] [] (.bool false) Af ?_
   intro w23 hw23
   refine⟨congrArg (fun b=>Ending.returned (Value.bool b)) (Eq.symm (?_:Eh c=false)),Bi hw23⟩
   exact YJ (k:=k) (by omega) (by rw[←hy18];exact Bool.eq_false_iff.2 h22)
  refine Az 16 0 [0] [[oF],[o0,(a1 1),o0,o0]] [BF ((k:Int)<(c.Aa.xs.length:Int)),Qb z] [(1,pt z),(Gn c),(49,i6 0)] rfl ⟨bf,rfl,Af⟩ ?_
  refine DY (fun m a w'=>∃ (n25:Nat) (k2:Nat),m=c.Ah.xs.length - k2∧n9≤n25∧(k2≤c.Ah.xs.length)∧(∀ i,i<k2→MQ c i=true)∧St 106 [(1,pt z),(Gn c),(49,Ac k2)] [] ⟨w,n25,[(Ak w),(KH z c)]⟩ a w') (c.Ah.xs.length - 0) ?_ ?_
  ·intro a w' hs;exact⟨n9,0,rfl,Nat.le_refl _,Nat.zero_le _,fun i hi=>absurd hi (Nat.not_lt_zero i),hs⟩
  rintro m a w' ⟨n25,k2,rfl,hn24,hkk2,hch,hs⟩
  refine(?_:G Tryd.prog 106 [(1,pt z),(Gn c),(49,Ac k2)] [] ⟨w,n25,[(Ak w),(KH z c)]⟩ _ _ _) a w' hs
  clear hs a w'
  refine DW ?_
  by_cases h26:(k2:Int)<(c.Ah.xs.length:Int)
  ·refine Az 14 0 [1] [[oT],[o0,o0]] [BT ((k2:Int)<(c.Ah.xs.length:Int))] [(1,pt z),(Gn c),(49,Ac k2),(4,Ac k2)] rfl ⟨bt,Af⟩ ?_
   obtain⟨b27,o28,ha29,hF31,hc30⟩:=(hc.Ah).1.all (show 0<c.Ah.xs.length by omega)
   replace ha29:c.Ah.a=some ⟨b27,o28,none⟩:=ha29
   have hc32:=hc30 k2 (show k2<c.Ah.xs.length by omega)
   have he33:=(hc.Ah).2 k2 (show k2<c.Ah.xs.length by omega)
   obtain⟨y34,hy34⟩:∃ y_,y_=gd c.Ah.xs k2:=⟨_,rfl⟩
   rw[←hy34]at he33 hc32
   refine q_c 6 1 [] [[o0,(Gy 1 b27 o28 c.Ah),o0,(oi k2),(ol 0 (AP.arr y34)),o0,(an 3 2)],[(an 3 2)]] [Qb z,FO b27 o28 c.Ah,DJ k2,k2<c.Ah.xs.length,Di,He w b27 (o28+k2*3) (AP.arr y34),Qb n25,Qb n25,Qb n25,Qb n25,Qb n25,Qb n25] [(1,pt z),(Gn c),(49,Ac k2),(4,Ac k2),(5,pt n25),(57,.agg (AP.arr y34))] ⟨w,n25+1,[(Ak w),(KH z c),(Ru n25 y34)]⟩ rfl ⟨rfl,FP ha29,rfl,(by omega),rfl,EH hc32,rfl,rfl,rfl,rfl,rfl,rfl,Af⟩ ?_
   refine BI 54 #[.agg (AP.arr y34)] (some 58) (i6 (portOf y34)) (fun w35 hw35=>Sj w35 y34 (he33.ext (hw35.ext rfl) (fun _ h=>h))) (fun n36 (hn37:n25+1≤n36) => ?_)
   refine DZ [1,48,49,4,5,58] [(1,pt z),(Gn c),(49,Ac k2),(4,Ac k2),(5,pt n25),(58,i6 (portOf y34))] ?_
   by_cases h38:(portOf y34:Int)=0
   ·refine Cc 8 0 [1] [[oT,o0,o0],[o0]] [ET (portOf y34) 0] [(2,.bool false)] rfl ⟨et,Af⟩ ?_
    refine AO [] [] (.bool false) Af ?_
    intro w39 hw39
    refine⟨congrArg (fun b=>Ending.returned (Value.bool b)) (Eq.symm (?_:Eh c=false)),Bi hw39⟩
    exact IE (k:=k2) (by omega) (Jw (by rw[←hy34];first | omega | (right;right;unfold Iw;rw[show c.Aa.xs.length=k3 by omega];omega)))
   by_cases h40:(y34.Kind:Int)=1
   ·by_cases h41:(y34.Dy:Int)=0
    ·refine Cc 19 0 [0] [[oF,o0,o0,(a1 2),oT,o0,o0,(a1 2),oF,o0,o0],[o0],[o0],[o0,(a1 1),o0,o0]] [EF (portOf y34) 0,Qb n25,ET y34.Kind 1,Qb n25,NF y34.Dy 0,Qb z] [(1,pt z),(4,Ac k2),(6,i6 0),(7,i6 0),(Gn c),(49,Ac k2),(Jf c),(73,i6 0)] rfl ⟨ef,rfl,et,rfl,nf,rfl,Af⟩ ?_
     refine DY (fun m a w'=>∃ (n43:Nat) (k3:Nat),m=c.Aa.xs.length - k3∧n36≤n43∧(k3≤c.Aa.xs.length)∧St 106 [(1,pt z),(4,Ac k2),(Oo c k2 k3),(MV c k2 k3),(Gn c),(49,Ac k2),(Jf c),(73,Ac k3)] [] ⟨w,n43,[(Ak w),(KH z c),(Ru n25 y34)]⟩ a w') (c.Aa.xs.length - 0) ?_ ?_
     ·intro a w' hs;exact⟨n36,0,rfl,Nat.le_refl _,Nat.zero_le _,hs⟩
     rintro m a w' ⟨n43,k3,rfl,hn42,hkk3,hs⟩
     refine(?_:G Tryd.prog 106 [(1,pt z),(4,Ac k2),(Oo c k2 k3),(MV c k2 k3),(Gn c),(49,Ac k2),(Jf c),(73,Ac k3)] [] ⟨w,n43,[(Ak w),(KH z c),(Ru n25 y34)]⟩ _ _ _) a w' hs
     clear hs a w'
     have hsa:=TE (f:=fun x=>Dz x (k2:Int) true) (B:=8) (xs:=c.Aa.xs) (fun i hi=>NH (hp i (by omega)) _ _) k3 hkk3
     have hsb:=TE (f:=fun x=>Dz x (k2:Int) false) (B:=8) (xs:=c.Aa.xs) (fun i hi=>NH (hp i (by omega)) _ _) k3 hkk3
     refine DW ?_
     by_cases h44:(k3:Int)<(c.Aa.xs.length:Int)
     ·refine Az 14 0 [1] [[oT],[o0,o0]] [BT ((k3:Int)<(c.Aa.xs.length:Int))] [(1,pt z),(4,Ac k2),(Oo c k2 k3),(MV c k2 k3),(Gn c),(49,Ac k2),(Jf c),(73,Ac k3),(8,Ac k3)] rfl ⟨bt,Af⟩ ?_
      obtain⟨b45,o46,ha47,hF49,hc48⟩:=(hc.Aa).1.all (show 0<c.Aa.xs.length by omega)
      replace ha47:c.Aa.a=some ⟨b45,o46,none⟩:=ha47
      have hc50:=hc48 k3 (show k3<c.Aa.xs.length by omega)
      have he51:=(hc.Aa).2 k3 (show k3<c.Aa.xs.length by omega)
      obtain⟨y52,hy52⟩:∃ y_,y_=gd c.Aa.xs k3:=⟨_,rfl⟩
      rw[←hy52]at he51 hc50
      have hqy52:=hp k3 (by omega);rw[←hy52]at hqy52;have hl1y52:=NH hqy52 (k2:Int) true;have hl2y52:=NH hqy52 (k2:Int) false
      refine Az 1 7 [] [[o0,o0,(Gy 1 b45 o46 c.Aa),o0,(oi k3),(ol 0 (Aq.arr y52)),o0]] [Qb z,FO b45 o46 c.Aa,DJ k3,k3<c.Aa.xs.length,Di,He w b45 (o46+k3*8) (Aq.arr y52)] [(1,pt z),(4,Ac k2),(MV c k2 k3),(Gn c),(49,Ac k2),(Jf c),(73,Ac k3),(8,Ac k3),(76,i6 ((Fh (fun x=>Dz x (k2:Int) true) c.Aa.xs k3:Nat):Int)),(81,.agg (Aq.arr y52)),(82,Ac k2)] rfl ⟨rfl,FP ha47,rfl,(by omega),rfl,EH hc50,Af⟩ ?_
      refine BI 55 #[.agg (Aq.arr y52),Ac k2,.bool true] (some 83) (i6 ((Dz y52 (k2:Int) true:Nat):Int)) (fun w53 hw53=>Qh w53 y52 (k2:Int) true (he51.ext (hw53.ext rfl) (fun _ h=>h))) (fun n54 (hn55:n43≤n54) => ?_)
      refine Cc 3 7 [] [[(ov (i6 (((Fh (fun x=>Dz x (k2:Int) true) c.Aa.xs k3)+(Dz y52 (k2:Int) true):Nat):Int))),o0],[o0,o0,(Gy 1 b45 o46 c.Aa),o0,(oi k3),(ol 0 (Aq.arr y52)),o0]] [Wr ((((Fh (fun x=>Dz x (k2:Int) true) c.Aa.xs k3:Nat):Int):Int)+((Dz y52 (k2:Int) true:Nat):Int)) ((((Fh (fun x=>Dz x (k2:Int) true) c.Aa.xs k3)+(Dz y52 (k2:Int) true):Nat):Int)),Qb z,FO b45 o46 c.Aa,DJ k3,k3<c.Aa.xs.length,Di,He w b45 (o46+k3*8) (Aq.arr y52)] [(1,pt z),(4,Ac k2),(Gn c),(49,Ac k2),(Jf c),(73,Ac k3),(WF c k2 k3 y52),(85,i6 ((Fh (fun x=>Dz x (k2:Int) false) c.Aa.xs k3:Nat):Int)),(90,.agg (Aq.arr y52)),(91,Ac k2)] rfl ⟨CB,rfl,FP ha47,rfl,(by omega),rfl,EH hc50,Af⟩ ?_
      refine BI 55 #[.agg (Aq.arr y52),Ac k2,.bool false] (some 92) (i6 ((Dz y52 (k2:Int) false:Nat):Int)) (fun w56 hw56=>Qh w56 y52 (k2:Int) false (he51.ext (hw56.ext rfl) (fun _ h=>h))) (fun n57 (hn58:n54≤n57) => ?_)
      refine Cc 5 0 [] [[(ov (i6 (((Fh (fun x=>Dz x (k2:Int) false) c.Aa.xs k3)+(Dz y52 (k2:Int) false):Nat):Int))),o0],[(ov (i6 ((k3+1:Nat):Int))),o0]] [Wr ((((Fh (fun x=>Dz x (k2:Int) false) c.Aa.xs k3:Nat):Int):Int)+((Dz y52 (k2:Int) false:Nat):Int)) ((((Fh (fun x=>Dz x (k2:Int) false) c.Aa.xs k3)+(Dz y52 (k2:Int) false):Nat):Int)),Wr ((k3:Int)+1) (((k3+1:Nat):Int))] [(1,pt z),(4,Ac k2),(Gn c),(49,Ac k2),(Jf c),(73,i6 ((k3+1:Nat):Int)),(WF c k2 k3 y52),(7,i6 (((Fh (fun x=>Dz x (k2:Int) false) c.Aa.xs k3)+(Dz y52 (k2:Int) false):Nat):Int))] rfl ⟨CB,CB,Af⟩ ?_
      have hT1:=OA (f:=fun x=>Dz x (k2:Int) true) (show k3<c.Aa.xs.length by omega)
      have hT2:=OA (f:=fun x=>Dz x (k2:Int) false) (show k3<c.Aa.xs.length by omega)
      rw[←hy52]at hT1 hT2
      refine BR [1,4,6,7,48,49,72,73] [(1,pt z),(4,Ac k2),(WF c k2 k3 y52),(7,i6 (((Fh (fun x=>Dz x (k2:Int) false) c.Aa.xs k3)+(Dz y52 (k2:Int) false):Nat):Int)),(Gn c),(49,Ac k2),(Jf c),(73,i6 ((k3+1:Nat):Int))] ?_
      refine Cf (fun a w' hs=>⟨c.Aa.xs.length - (k3+1),by omega,n57,(k3+1),rfl,by omega,by omega,by(try dsimp only[Ru,KH,WF,MV,Oo,NQ,Jf,Gn]at hs ⊢);rw[hT1,hT2];exact hs⟩)
     refine Az 11 0 [0] [[oF]] [BF ((k3:Int)<(c.Aa.xs.length:Int))] [(1,pt z),(4,Ac k2),(Oo c k2 k3),(MV c k2 k3),(Gn c),(49,Ac k2),(Jf c),(73,Ac k3),(74,.bool false)] rfl ⟨bf,Af⟩ ?_
     by_cases h59:(((Fh (fun x=>Dz x (k2:Int) true) c.Aa.xs k3:Nat):Int):Int)=1
     ·by_cases h60:(((Fh (fun x=>Dz x (k2:Int) false) c.Aa.xs k3:Nat):Int):Int)<1
      ·refine Az 9 0 [1] [[o0,oF,o0,o0,oT,o0,o0,o0],[o0]] [NF ((Fh (fun x=>Dz x (k2:Int) true) c.Aa.xs k3:Nat):Int) 1,BT ((((Fh (fun x=>Dz x (k2:Int) false) c.Aa.xs k3:Nat):Int):Int)<1)] [(2,.bool false)] rfl ⟨nf,bt,Af⟩ ?_
       refine AO [] [] (.bool false) Af ?_
       intro w61 hw61
       refine⟨congrArg (fun b=>Ending.returned (Value.bool b)) (Eq.symm (?_:Eh c=false)),Bi hw61⟩
       exact IE (k:=k2) (by omega) (Jw (by rw[←hy34];first | omega | (right;right;unfold Iw;rw[show c.Aa.xs.length=k3 by omega];omega)))
      by_cases h62:(4:Int)<((Fh (fun x=>Dz x (k2:Int) false) c.Aa.xs k3:Nat):Int)
      ·refine Az 9 0 [1] [[o0,oF,o0,o0,oF,o0,o0,o0,oT,o0],[o0]] [NF ((Fh (fun x=>Dz x (k2:Int) true) c.Aa.xs k3:Nat):Int) 1,BF ((((Fh (fun x=>Dz x (k2:Int) false) c.Aa.xs k3:Nat):Int):Int)<1),BT ((((Fh (fun x=>Dz x (k2:Int) false) c.Aa.xs k3:Nat):Int):Int) > 4)] [(2,.bool false)] rfl ⟨nf,bf,bt,Af⟩ ?_
       refine AO [] [] (.bool false) Af ?_
       intro w63 hw63
       refine⟨congrArg (fun b=>Ending.returned (Value.bool b)) (Eq.symm (?_:Eh c=false)),Bi hw63⟩
       exact IE (k:=k2) (by omega) (Jw (by rw[←hy34];first | omega | (right;right;unfold Iw;rw[show c.Aa.xs.length=k3 by omega];omega)))
      refine Az 9 0 [0] [[o0,oF,o0,o0,oF,o0,o0,o0,oF,o0],[(ov (i6 ((k2+1:Nat):Int))),o0]] [NF ((Fh (fun x=>Dz x (k2:Int) true) c.Aa.xs k3:Nat):Int) 1,BF ((((Fh (fun x=>Dz x (k2:Int) false) c.Aa.xs k3:Nat):Int):Int)<1),BF ((((Fh (fun x=>Dz x (k2:Int) false) c.Aa.xs k3:Nat):Int):Int) > 4),Wr ((k2:Int)+1) (((k2+1:Nat):Int))] [(1,pt z),(Gn c),(49,i6 ((k2+1:Nat):Int))] rfl ⟨nf,bf,bf,CB,Af⟩ ?_
      refine BX [0,1] [(Ak w),(KH z c)] rfl rfl ?_
      refine BR [1,48,49] [(1,pt z),(Gn c),(49,i6 ((k2+1:Nat):Int))] ?_
      refine Cf (fun a w' hs=>⟨c.Ah.xs.length - (k2+1),by omega,n43,(k2+1),rfl,by omega,by omega,upto hch (TT (by rw[←hy34];omega) (by rw[←hy34];omega) (by unfold Iw;rw[show c.Aa.xs.length=k3 by omega];omega) (by unfold Iw;rw[show c.Aa.xs.length=k3 by omega];omega)),hs⟩)
     refine Az 9 0 [1] [[o0,oT,o0,o0,o0,o0],[o0]] [NT ((Fh (fun x=>Dz x (k2:Int) true) c.Aa.xs k3:Nat):Int) 1] [(2,.bool false)] rfl ⟨nt,Af⟩ ?_
     refine AO [] [] (.bool false) Af ?_
     intro w64 hw64
     refine⟨congrArg (fun b=>Ending.returned (Value.bool b)) (Eq.symm (?_:Eh c=false)),Bi hw64⟩
     exact IE (k:=k2) (by omega) (Jw (by rw[←hy34];first | omega | (right;right;unfold Iw;rw[show c.Aa.xs.length=k3 by omega];omega)))
    refine Cc 8 0 [1] [[oF,o0,o0,(a1 2),oT,o0,o0,(a1 2),oT,o0,o0],[o0]] [EF (portOf y34) 0,Qb n25,ET y34.Kind 1,Qb n25,NT y34.Dy 0] [(2,.bool false)] rfl ⟨ef,rfl,et,rfl,nt,Af⟩ ?_
    refine AO [] [] (.bool false) Af ?_
    intro w65 hw65
    refine⟨congrArg (fun b=>Ending.returned (Value.bool b)) (Eq.symm (?_:Eh c=false)),Bi hw65⟩
    exact IE (k:=k2) (by omega) (Jw (by rw[←hy34];first | omega | (right;right;unfold Iw;rw[show c.Aa.xs.length=k3 by omega];omega)))
   refine Cc 19 0 [0] [[oF,o0,o0,(a1 2),oF,o0,o0,o0],[o0],[o0],[o0,(a1 1),o0,o0]] [EF (portOf y34) 0,Qb n25,EF y34.Kind 1,Qb z] [(1,pt z),(4,Ac k2),(6,i6 0),(7,i6 0),(Gn c),(49,Ac k2),(Jf c),(73,i6 0)] rfl ⟨ef,rfl,ef,rfl,Af⟩ ?_
   refine DY (fun m a w'=>∃ (n67:Nat) (k3:Nat),m=c.Aa.xs.length - k3∧n36≤n67∧(k3≤c.Aa.xs.length)∧St 106 [(1,pt z),(4,Ac k2),(Oo c k2 k3),(MV c k2 k3),(Gn c),(49,Ac k2),(Jf c),(73,Ac k3)] [] ⟨w,n67,[(Ak w),(KH z c),(Ru n25 y34)]⟩ a w') (c.Aa.xs.length - 0) ?_ ?_
   ·intro a w' hs;exact⟨n36,0,rfl,Nat.le_refl _,Nat.zero_le _,hs⟩
   rintro m a w' ⟨n67,k3,rfl,hn66,hkk3,hs⟩
   refine(?_:G Tryd.prog 106 [(1,pt z),(4,Ac k2),(Oo c k2 k3),(MV c k2 k3),(Gn c),(49,Ac k2),(Jf c),(73,Ac k3)] [] ⟨w,n67,[(Ak w),(KH z c),(Ru n25 y34)]⟩ _ _ _) a w' hs
   clear hs a w'
   have hsa:=TE (f:=fun x=>Dz x (k2:Int) true) (B:=8) (xs:=c.Aa.xs) (fun i hi=>NH (hp i (by omega)) _ _) k3 hkk3
   have hsb:=TE (f:=fun x=>Dz x (k2:Int) false) (B:=8) (xs:=c.Aa.xs) (fun i hi=>NH (hp i (by omega)) _ _) k3 hkk3
   refine DW ?_
   by_cases h68:(k3:Int)<(c.Aa.xs.length:Int)
   ·refine Az 14 0 [1] [[oT],[o0,o0]] [BT ((k3:Int)<(c.Aa.xs.length:Int))] [(1,pt z),(4,Ac k2),(Oo c k2 k3),(MV c k2 k3),(Gn c),(49,Ac k2),(Jf c),(73,Ac k3),(8,Ac k3)] rfl ⟨bt,Af⟩ ?_
    obtain⟨b69,o70,ha71,hF73,hc72⟩:=(hc.Aa).1.all (show 0<c.Aa.xs.length by omega)
    replace ha71:c.Aa.a=some ⟨b69,o70,none⟩:=ha71
    have hc74:=hc72 k3 (show k3<c.Aa.xs.length by omega)
    have he75:=(hc.Aa).2 k3 (show k3<c.Aa.xs.length by omega)
    obtain⟨y76,hy76⟩:∃ y_,y_=gd c.Aa.xs k3:=⟨_,rfl⟩
    rw[←hy76]at he75 hc74
    have hqy76:=hp k3 (by omega);rw[←hy76]at hqy76;have hl1y76:=NH hqy76 (k2:Int) true;have hl2y76:=NH hqy76 (k2:Int) false
    refine Az 1 7 [] [[o0,o0,(Gy 1 b69 o70 c.Aa),o0,(oi k3),(ol 0 (Aq.arr y76)),o0]] [Qb z,FO b69 o70 c.Aa,DJ k3,k3<c.Aa.xs.length,Di,He w b69 (o70+k3*8) (Aq.arr y76)] [(1,pt z),(4,Ac k2),(MV c k2 k3),(Gn c),(49,Ac k2),(Jf c),(73,Ac k3),(8,Ac k3),(76,i6 ((Fh (fun x=>Dz x (k2:Int) true) c.Aa.xs k3:Nat):Int)),(81,.agg (Aq.arr y76)),(82,Ac k2)] rfl ⟨rfl,FP ha71,rfl,(by omega),rfl,EH hc74,Af⟩ ?_
    refine BI 55 #[.agg (Aq.arr y76),Ac k2,.bool true] (some 83) (i6 ((Dz y76 (k2:Int) true:Nat):Int)) (fun w77 hw77=>Qh w77 y76 (k2:Int) true (he75.ext (hw77.ext rfl) (fun _ h=>h))) (fun n78 (hn79:n67≤n78) => ?_)
    refine Cc 3 7 [] [[(ov (i6 (((Fh (fun x=>Dz x (k2:Int) true) c.Aa.xs k3)+(Dz y76 (k2:Int) true):Nat):Int))),o0],[o0,o0,(Gy 1 b69 o70 c.Aa),o0,(oi k3),(ol 0 (Aq.arr y76)),o0]] [Wr ((((Fh (fun x=>Dz x (k2:Int) true) c.Aa.xs k3:Nat):Int):Int)+((Dz y76 (k2:Int) true:Nat):Int)) ((((Fh (fun x=>Dz x (k2:Int) true) c.Aa.xs k3)+(Dz y76 (k2:Int) true):Nat):Int)),Qb z,FO b69 o70 c.Aa,DJ k3,k3<c.Aa.xs.length,Di,He w b69 (o70+k3*8) (Aq.arr y76)] [(1,pt z),(4,Ac k2),(Gn c),(49,Ac k2),(Jf c),(73,Ac k3),(WB c k2 k3 y76),(85,i6 ((Fh (fun x=>Dz x (k2:Int) false) c.Aa.xs k3:Nat):Int)),(90,.agg (Aq.arr y76)),(91,Ac k2)] rfl ⟨CB,rfl,FP ha71,rfl,(by omega),rfl,EH hc74,Af⟩ ?_
    refine BI 55 #[.agg (Aq.arr y76),Ac k2,.bool false] (some 92) (i6 ((Dz y76 (k2:Int) false:Nat):Int)) (fun w80 hw80=>Qh w80 y76 (k2:Int) false (he75.ext (hw80.ext rfl) (fun _ h=>h))) (fun n81 (hn82:n78≤n81) => ?_)
    refine Cc 5 0 [] [[(ov (i6 (((Fh (fun x=>Dz x (k2:Int) false) c.Aa.xs k3)+(Dz y76 (k2:Int) false):Nat):Int))),o0],[(ov (i6 ((k3+1:Nat):Int))),o0]] [Wr ((((Fh (fun x=>Dz x (k2:Int) false) c.Aa.xs k3:Nat):Int):Int)+((Dz y76 (k2:Int) false:Nat):Int)) ((((Fh (fun x=>Dz x (k2:Int) false) c.Aa.xs k3)+(Dz y76 (k2:Int) false):Nat):Int)),Wr ((k3:Int)+1) (((k3+1:Nat):Int))] [(1,pt z),(4,Ac k2),(Gn c),(49,Ac k2),(Jf c),(73,i6 ((k3+1:Nat):Int)),(WB c k2 k3 y76),(7,i6 (((Fh (fun x=>Dz x (k2:Int) false) c.Aa.xs k3)+(Dz y76 (k2:Int) false):Nat):Int))] rfl ⟨CB,CB,Af⟩ ?_
    have hT1:=OA (f:=fun x=>Dz x (k2:Int) true) (show k3<c.Aa.xs.length by omega)
    have hT2:=OA (f:=fun x=>Dz x (k2:Int) false) (show k3<c.Aa.xs.length by omega)
    rw[←hy76]at hT1 hT2
    refine BR [1,4,6,7,48,49,72,73] [(1,pt z),(4,Ac k2),(WB c k2 k3 y76),(7,i6 (((Fh (fun x=>Dz x (k2:Int) false) c.Aa.xs k3)+(Dz y76 (k2:Int) false):Nat):Int)),(Gn c),(49,Ac k2),(Jf c),(73,i6 ((k3+1:Nat):Int))] ?_
    refine Cf (fun a w' hs=>⟨c.Aa.xs.length - (k3+1),by omega,n81,(k3+1),rfl,by omega,by omega,by(try dsimp only[Ru,KH,WB,MV,Oo,NQ,Jf,Gn]at hs ⊢);rw[hT1,hT2];exact hs⟩)
   refine Az 11 0 [0] [[oF]] [BF ((k3:Int)<(c.Aa.xs.length:Int))] [(1,pt z),(4,Ac k2),(Oo c k2 k3),(MV c k2 k3),(Gn c),(49,Ac k2),(Jf c),(73,Ac k3),(74,.bool false)] rfl ⟨bf,Af⟩ ?_
   by_cases h83:(((Fh (fun x=>Dz x (k2:Int) true) c.Aa.xs k3:Nat):Int):Int)=1
   ·by_cases h84:(((Fh (fun x=>Dz x (k2:Int) false) c.Aa.xs k3:Nat):Int):Int)<1
    ·refine Az 9 0 [1] [[o0,oF,o0,o0,oT,o0,o0,o0],[o0]] [NF ((Fh (fun x=>Dz x (k2:Int) true) c.Aa.xs k3:Nat):Int) 1,BT ((((Fh (fun x=>Dz x (k2:Int) false) c.Aa.xs k3:Nat):Int):Int)<1)] [(2,.bool false)] rfl ⟨nf,bt,Af⟩ ?_
     refine AO [] [] (.bool false) Af ?_
     intro w85 hw85
     refine⟨congrArg (fun b=>Ending.returned (Value.bool b)) (Eq.symm (?_:Eh c=false)),Bi hw85⟩
     exact IE (k:=k2) (by omega) (Jw (by rw[←hy34];first | omega | (right;right;unfold Iw;rw[show c.Aa.xs.length=k3 by omega];omega)))
    by_cases h86:(4:Int)<((Fh (fun x=>Dz x (k2:Int) false) c.Aa.xs k3:Nat):Int)
    ·refine Az 9 0 [1] [[o0,oF,o0,o0,oF,o0,o0,o0,oT,o0],[o0]] [NF ((Fh (fun x=>Dz x (k2:Int) true) c.Aa.xs k3:Nat):Int) 1,BF ((((Fh (fun x=>Dz x (k2:Int) false) c.Aa.xs k3:Nat):Int):Int)<1),BT ((((Fh (fun x=>Dz x (k2:Int) false) c.Aa.xs k3:Nat):Int):Int) > 4)] [(2,.bool false)] rfl ⟨nf,bf,bt,Af⟩ ?_
     refine AO [] [] (.bool false) Af ?_
     intro w87 hw87
     refine⟨congrArg (fun b=>Ending.returned (Value.bool b)) (Eq.symm (?_:Eh c=false)),Bi hw87⟩
     exact IE (k:=k2) (by omega) (Jw (by rw[←hy34];first | omega | (right;right;unfold Iw;rw[show c.Aa.xs.length=k3 by omega];omega)))
    refine Az 9 0 [0] [[o0,oF,o0,o0,oF,o0,o0,o0,oF,o0],[(ov (i6 ((k2+1:Nat):Int))),o0]] [NF ((Fh (fun x=>Dz x (k2:Int) true) c.Aa.xs k3:Nat):Int) 1,BF ((((Fh (fun x=>Dz x (k2:Int) false) c.Aa.xs k3:Nat):Int):Int)<1),BF ((((Fh (fun x=>Dz x (k2:Int) false) c.Aa.xs k3:Nat):Int):Int) > 4),Wr ((k2:Int)+1) (((k2+1:Nat):Int))] [(1,pt z),(Gn c),(49,i6 ((k2+1:Nat):Int))] rfl ⟨nf,bf,bf,CB,Af⟩ ?_
    refine BX [0,1] [(Ak w),(KH z c)] rfl rfl ?_
    refine BR [1,48,49] [(1,pt z),(Gn c),(49,i6 ((k2+1:Nat):Int))] ?_
    refine Cf (fun a w' hs=>⟨c.Ah.xs.length - (k2+1),by omega,n67,(k2+1),rfl,by omega,by omega,upto hch (TT (by rw[←hy34];omega) (by rw[←hy34];omega) (by unfold Iw;rw[show c.Aa.xs.length=k3 by omega];omega) (by unfold Iw;rw[show c.Aa.xs.length=k3 by omega];omega)),hs⟩)
   refine Az 9 0 [1] [[o0,oT,o0,o0,o0,o0],[o0]] [NT ((Fh (fun x=>Dz x (k2:Int) true) c.Aa.xs k3:Nat):Int) 1] [(2,.bool false)] rfl ⟨nt,Af⟩ ?_
   refine AO [] [] (.bool false) Af ?_
   intro w88 hw88
   refine⟨congrArg (fun b=>Ending.returned (Value.bool b)) (Eq.symm (?_:Eh c=false)),Bi hw88⟩
   exact IE (k:=k2) (by omega) (Jw (by rw[←hy34];first | omega | (right;right;unfold Iw;rw[show c.Aa.xs.length=k3 by omega];omega)))
  refine Az 15 0 [0] [[oF],[o0]] [BF ((k2:Int)<(c.Ah.xs.length:Int))] [(2,.bool true)] rfl ⟨bf,Af⟩ ?_
  refine AO [] [] (.bool true) Af ?_
  intro w89 hw89
  refine⟨congrArg (fun b=>Ending.returned (Value.bool b)) (Eq.symm (?_:Eh c=true)),Bi hw89⟩
  exact YP (by omega) (by omega) (by omega) (fun i hi=>hp i (by omega)) (fun i hi=>hch i (by omega))
 refine Az 9 0 [1] [[o0,(a1 1),oF,o0,o0,(a1 1),oT,o0,o0,o0,o0,o0],[o0]] [Qb z,BF ((c.Kernel:Int)<0),Qb z,BT ((c.Kernel:Int)≥1024)] [(2,.bool false)] rfl ⟨rfl,bf,rfl,bt,Af⟩ ?_
 refine AO [] [] (.bool false) Af ?_
 intro w90 hw90
 refine⟨congrArg (fun b=>Ending.returned (Value.bool b)) (Eq.symm (?_:Eh c=false)),Bi hw90⟩
 exact NS (by omega)
def Cm(p:Nat)(x:Aq)(k:Int)(b:Bool)(j:Nat):List Fj:=((List.range j).filter (fun q=>Hz k b (gd x.Ar.xs q))).map (fun(q:Nat)=>(⟨(p:Int),(q:Int)⟩:Fj))
def CU(c:Aj)(k:Int)(b:Bool)(i:Nat):List Fj:=(List.range i).flatMap (fun p=>Cm p (gd c.Aa.xs p) k b (gd c.Aa.xs p).Ar.xs.length)
def BV(c:Aj)(k:Int)(b:Bool):List Fj:=CU c k b c.Aa.xs.length
theorem NJ{p:Nat}{x:Aq}{k:Int}{b:Bool}{j:Nat}(h:Hz k b (gd x.Ar.xs j)=true):Cm p x k b (j+1)=Cm p x k b j++[⟨(p:Int),(j:Int)⟩]:=by
 unfold Cm;rw[List.range_succ,List.filter_append,List.map_append];simp[h]
theorem JM{p:Nat}{x:Aq}{k:Int}{b:Bool}{j:Nat}(h:Hz k b (gd x.Ar.xs j)=false):Cm p x k b (j+1)=Cm p x k b j:=by
 unfold Cm;rw[List.range_succ,List.filter_append,List.map_append];simp[h]
theorem Py{p:Nat}{x:Aq}{k:Int}{b:Bool}{j:Nat}:(Cm p x k b j).length≤j:=by
 unfold Cm;rw[List.length_map];exact Nat.le_trans (List.length_filter_le _ _) (by simp)
theorem Kv{c:Aj}{k:Int}{b:Bool}{i:Nat}:CU c k b (i+1)=CU c k b i++Cm i (gd c.Aa.xs i) k b (gd c.Aa.xs i).Ar.xs.length:=by
 unfold CU;rw[List.range_succ,List.flatMap_append];simp
theorem Q7{c:Aj}{k:Int}{b:Bool}(hp:∀ i,i<c.Aa.xs.length→(gd c.Aa.xs i).Ar.xs.length≤8):∀ (i:Nat),i≤c.Aa.xs.length→(CU c k b i).length≤8*i
 | 0,_=>by simp[CU]
 | i+1,h=>by
  have h1:=Q7 (k:=k) (b:=b) hp i (by omega)
  have h2:=hp i (by omega)
  have h3:=Py (p:=i) (x:=gd c.Aa.xs i) (k:=k) (b:=b) (j:=(gd c.Aa.xs i).Ar.xs.length)
  rw[Kv,List.length_append];omega
theorem Yd(xs:List DK)(p:DK→Bool):∀ (j:Nat),j≤xs.length→((List.range j).filter (fun q=>p (gd xs q))).length=(xs.take j).countP p
 | 0,_=>by simp
 | j+1,h=>by
  rw[List.range_succ,List.filter_append,List.length_append,Yd xs p j (by omega),take_snoc (by omega),List.countP_append]
  cases hp:p (gd xs j) <;> simp[hp]
theorem Wu{c:Aj}{k:Int}{b:Bool}:∀ (i:Nat),i≤c.Aa.xs.length→(CU c k b i).length=Fh (fun x=>Dz x k b) c.Aa.xs i
 | 0,_=>by simp[CU,Fh]
 | i+1,h=>by
  rw[Kv,List.length_append,Wu i (by omega),OA (by omega)]
  congr 1
  unfold Cm Dz
  rw[List.length_map,Yd _ _ _ (Nat.le_refl _),List.take_length]
theorem P7(c:Aj)(k:Nat)(b:Bool):(BV c k b).length=Iw c k b:=Wu _ (Nat.le_refl _)
section
variable (n2:Nat)(y11:Aq)(z:Nat)(c:Aj)(aD2:Option Addr)(ch:Int)(i j cD2:Nat)(aS2:Option Addr)(cS2:Nat)(aD:Option Addr)(cD:Nat)(aS:Option Addr)(cS b4:Nat)(o5 b15 o16:Nat)
abbrev Fz:=bk n2 (Aq.arr y11) 52
abbrev Ey:=bk z (Aj.arr c) 26
abbrev EQ:=Ci z 121 2 Fj.cells (.slice aD2 ((CU c ch false i++Cm i y11 ch false j).length) cD2) (CU c ch false i++Cm i y11 ch false j)
abbrev EN:=Ci z 121 2 Fj.cells (.slice aS2 ((CU c ch true i++Cm i y11 ch true j).length) cS2) (CU c ch true i++Cm i y11 ch true j)
abbrev EP:=Ci z 121 2 Fj.cells (.slice aD ((CU c ch false i).length) cD) (CU c ch false i)
abbrev Gp:=Ci z 121 2 Fj.cells (.slice aS ((CU c ch true i).length) cS) (CU c ch true i)
abbrev EW:Dc:=(5,.slice aD2 ((CU c ch false i++Cm i y11 ch false j).length) cD2)
abbrev EO:Dc:=(4,.slice aS2 ((CU c ch true i++Cm i y11 ch true j).length) cS2)
abbrev E8:Dc:=(11,.slice (some ⟨b4,o5,none⟩) c.Aa.xs.length c.Aa.cap)
abbrev FC:Dc:=(19,.slice (some ⟨b15,o16,none⟩) y11.Ar.xs.length y11.Ar.cap)
abbrev DX:Dc:=(11,.slice c.Aa.a c.Aa.xs.length c.Aa.cap)
abbrev Ew:Dc:=(19,.slice y11.Ar.a y11.Ar.xs.length y11.Ar.cap)
abbrev DU:=(12,Ac c.Aa.xs.length)
abbrev Gu:=(20,Ac y11.Ar.xs.length)
abbrev Jh:Dc:=(5,.slice aD ((CU c ch false i).length) cD)
abbrev JV:=(21,i6 ((j+1:Nat):Int))
end
theorem P8(w:World)(c:Aj)(ch:Int)(hc:Aj.ok Any w c)(hl:c.Aa.xs.length≤8)(hp:∀ i,i<c.Aa.xs.length→(gd c.Aa.xs i).Ar.xs.length≤8):Calls Tryd.prog 39 #[.agg (Aj.arr c),.int .i64 ch] w fun e w'=>∃ a1 c1 a2 c2,e = .returned (.tuple #[.slice a1 (BV c ch true).length c1,.slice a2 (BV c ch false).length c2])∧Uy Fj.cells 2 (New w.heap.size) w' ⟨a1,c1,BV c ch true⟩∧Uy Fj.cells 2 (New w.heap.size) w' ⟨a2,c2,BV c ch false⟩∧CZ (fun _=>False) w w':=by
 obtain⟨z,hz⟩:∃ z,z=w.heap.size:=⟨_,rfl⟩
 refine Cb (args:=[.agg (Aj.arr c),i6 ch]) 50 ⟨w,z,[(Ak w)]⟩ Tryd.func39 rfl (by kernel_rfl) (by kernel_rfl) (ES hz) ?_
 refine Ee [0,1] [(0,.agg (Aj.arr c)),(1,i6 ch)] ?_
 refine q_c 10 0 [] [[o0,o0,o0],[o0,(a1 1),o0,o0]] [Qb z] [(1,i6 ch),(4,.slice none 0 0),(5,.slice none 0 0),(DX c),(DU c),(13,i6 0)] ⟨w,z+1,[(Ak w),(Ey z c)]⟩ rfl ⟨rfl,Af⟩ ?_
 refine Qr z 121 2 Fj.cells ?_
 refine Qr z 121 2 Fj.cells ?_
 refine DY (fun m a w'=>∃ (n2:Nat) (i:Nat) (aS:Option Addr) (cS:Nat) (aD:Option Addr) (cD:Nat),m=c.Aa.xs.length - i∧z+1≤n2∧(i≤c.Aa.xs.length)∧St 50 [(1,i6 ch),(4,.slice aS ((CU c ch true i).length) cS),(Jh c ch i aD cD),(DX c),(DU c),(13,Ac i)] [] ⟨w,n2,[(Ak w),(Ey z c),(Gp z c ch i aS cS),(EP z c ch i aD cD)]⟩ a w') (c.Aa.xs.length - 0) ?_ ?_
 ·intro a w' hs;exact⟨(z+1),0,none,0,none,0,rfl,Nat.le_refl _,Nat.zero_le _,hs⟩
 rintro m a w' ⟨n2,i,aS,cS,aD,cD,rfl,hn1,hki,hs⟩
 refine(?_:G Tryd.prog 50 [(1,i6 ch),(4,.slice aS ((CU c ch true i).length) cS),(Jh c ch i aD cD),(DX c),(DU c),(13,Ac i)] [] ⟨w,n2,[(Ak w),(Ey z c),(Gp z c ch i aS cS),(EP z c ch i aD cD)]⟩ _ _ _) a w' hs
 clear hs a w'
 have hq3:=Q7 (k:=ch) (b:=true) hp i (by omega)
 have hq4:=Q7 (k:=ch) (b:=false) hp i (by omega)
 refine DW ?_
 by_cases h3:(i:Int)<(c.Aa.xs.length:Int)
 ·refine Az 10 0 [1] [[oT]] [BT ((i:Int)<(c.Aa.xs.length:Int))] [(1,i6 ch),(4,.slice aS ((CU c ch true i).length) cS),(Jh c ch i aD cD),(DX c),(DU c),(13,Ac i),(14,.bool true)] rfl ⟨bt,Af⟩ ?_
  obtain⟨b4,o5,ha6,hF8,hc7⟩:=(hc.Aa).1.all (show 0<c.Aa.xs.length by omega)
  replace ha6:c.Aa.a=some ⟨b4,o5,none⟩:=ha6
  refine Ku [(1,i6 ch),(4,.slice aS ((CU c ch true i).length) cS),(Jh c ch i aD cD),(E8 c b4 o5),(DU c),(13,Ac i),(14,.bool true)] (by(try dsimp only[Ey,EP,Gp,E8,DX,DU,Jh]);simp only[ha6]) ?_
  have hc9:=hc7 i (show i<c.Aa.xs.length by omega)
  have he10:=(hc.Aa).2 i (show i<c.Aa.xs.length by omega)
  obtain⟨y11,hy11⟩:∃ y_,y_=gd c.Aa.xs i:=⟨_,rfl⟩
  rw[←hy11]at he10 hc9
  have h8y11:=hp i (by omega);rw[←hy11]at h8y11
  refine q_c 8 0 [] [[o0,(oi i),(ol 0 (Aq.arr y11)),o0,o0,(an 8 4)],[o0,(a1 4),o0,o0]] [DJ i,i<c.Aa.xs.length,Di,He w b4 (o5+i*8) (Aq.arr y11),Qb n2,Qb n2,Qb n2,Qb n2,Qb n2,Qb n2,Qb n2,Qb n2,Qb n2] [(1,i6 ch),(4,.slice aS ((CU c ch true i).length) cS),(Jh c ch i aD cD),(6,Ac i),(E8 c b4 o5),(DU c),(13,Ac i),(Ew y11),(Gu y11),(21,i6 0)] ⟨w,n2+1,[(Ak w),(Ey z c),(Gp z c ch i aS cS),(EP z c ch i aD cD),(Fz n2 y11)]⟩ rfl ⟨rfl,(by omega),rfl,EH hc9,rfl,rfl,rfl,rfl,rfl,rfl,rfl,rfl,rfl,Af⟩ ?_
  refine DY (fun m a w'=>∃ (n13:Nat) (j:Nat) (aS2:Option Addr) (cS2:Nat) (aD2:Option Addr) (cD2:Nat),m=y11.Ar.xs.length - j∧n2+1≤n13∧(j≤y11.Ar.xs.length)∧St 50 [(1,i6 ch),(EO y11 c ch i j aS2 cS2),(EW y11 c aD2 ch i j cD2),(6,Ac i),(E8 c b4 o5),(DU c),(13,Ac i),(Ew y11),(Gu y11),(21,Ac j)] [] ⟨w,n13,[(Ak w),(Ey z c),(EN y11 z c ch i j aS2 cS2),(EQ y11 z c aD2 ch i j cD2),(Fz n2 y11)]⟩ a w') (y11.Ar.xs.length - 0) ?_ ?_
  ·intro a w' hs;exact⟨(n2+1),0,aS,cS,aD,cD,rfl,Nat.le_refl _,Nat.zero_le _,by(try dsimp only[Fz,Ey,EQ,EN,EP,Gp,EW,EO,E8,DX,Ew,DU,Gu,Jh]at hs ⊢);rw[show Cm i y11 ch true 0=[]from rfl,show Cm i y11 ch false 0=[]from rfl,List.append_nil,List.append_nil];exact hs⟩
  rintro m a w' ⟨n13,j,aS2,cS2,aD2,cD2,rfl,hn12,hkj,hs⟩
  refine(?_:G Tryd.prog 50 [(1,i6 ch),(EO y11 c ch i j aS2 cS2),(EW y11 c aD2 ch i j cD2),(6,Ac i),(E8 c b4 o5),(DU c),(13,Ac i),(Ew y11),(Gu y11),(21,Ac j)] [] ⟨w,n13,[(Ak w),(Ey z c),(EN y11 z c ch i j aS2 cS2),(EQ y11 z c aD2 ch i j cD2),(Fz n2 y11)]⟩ _ _ _) a w' hs
  clear hs a w'
  have hq1:(Cm i y11 ch true j).length≤j:=Py
  have hq2:(Cm i y11 ch false j).length≤j:=Py
  refine DW ?_
  by_cases h14:(j:Int)<(y11.Ar.xs.length:Int)
  ·refine Az 10 0 [1] [[oT]] [BT ((j:Int)<(y11.Ar.xs.length:Int))] [(1,i6 ch),(EO y11 c ch i j aS2 cS2),(EW y11 c aD2 ch i j cD2),(6,Ac i),(E8 c b4 o5),(DU c),(13,Ac i),(Ew y11),(Gu y11),(21,Ac j),(22,.bool true)] rfl ⟨bt,Af⟩ ?_
   obtain⟨b15,o16,ha17,hF19,hc18⟩:=(he10.Ar).1.all (show 0<y11.Ar.xs.length by omega)
   replace ha17:y11.Ar.a=some ⟨b15,o16,none⟩:=ha17
   refine Ku [(1,i6 ch),(EO y11 c ch i j aS2 cS2),(EW y11 c aD2 ch i j cD2),(6,Ac i),(E8 c b4 o5),(DU c),(13,Ac i),(FC y11 b15 o16),(Gu y11),(21,Ac j),(22,.bool true)] (by(try dsimp only[Fz,Ey,EQ,EN,EP,Gp,EW,EO,E8,FC,DX,Ew,DU,Gu,Jh]);simp only[ha17]) ?_
   have hc20:=hc18 j (show j<y11.Ar.xs.length by omega)
   have he21:=(he10.Ar).2 j (show j<y11.Ar.xs.length by omega)
   obtain⟨y22,hy22⟩:∃ y_,y_=gd y11.Ar.xs j:=⟨_,rfl⟩
   rw[←hy22]at he21 hc20
   refine q_c 5 0 [] [[o0,(oi j),(ol 0 (DK.arr y22)),o0,o0,(an 2 5)]] [DJ j,j<y11.Ar.xs.length,Di,He w b15 (o16+j*2) (DK.arr y22),Qb n13,Qb n13] [(1,i6 ch),(EO y11 c ch i j aS2 cS2),(EW y11 c aD2 ch i j cD2),(6,Ac i),(E8 c b4 o5),(DU c),(13,Ac i),(FC y11 b15 o16),(Gu y11),(21,Ac j),(9,pt n13),(8,Ac j)] ⟨w,n13+1,[(Ak w),(Ey z c),(EN y11 z c ch i j aS2 cS2),(EQ y11 z c aD2 ch i j cD2),(Fz n2 y11),(bk n13 (DK.arr y22) 127)]⟩ rfl ⟨rfl,(by omega),rfl,EH hc20,rfl,rfl,Af⟩ ?_
   by_cases h23:(y22.Channel:Int)=ch
   ·refine Az 8 0 [0] [[o0,(a1 5),o0,oF,o0],[o0,(a1 5),o0]] [Qb n13,NF y22.Channel ch,Qb n13] [(1,i6 ch),(EO y11 c ch i j aS2 cS2),(EW y11 c aD2 ch i j cD2),(6,Ac i),(E8 c b4 o5),(DU c),(13,Ac i),(FC y11 b15 o16),(Gu y11),(21,Ac j),(8,Ac j),(37,.bool y22.Source)] rfl ⟨rfl,nf,rfl,Af⟩ ?_
    by_cases h24:y22.Source=true
    ·refine q_c 2 5 [3] [[o0,o0,o0,o0,o0]] [Value.bool y22.Source=Value.bool true] [(1,i6 ch),(EW y11 c aD2 ch i j cD2),(6,Ac i),(E8 c b4 o5),(DU c),(13,Ac i),(FC y11 b15 o16),(Gu y11),(21,Ac j),(40,.slice aS2 ((CU c ch true i++Cm i y11 ch true j).length) cS2),(44,.slice (some ⟨n13+1,0,none⟩) 1 1)] ⟨w,n13+2,[(Ak w),(Ey z c),(EN y11 z c ch i j aS2 cS2),(EQ y11 z c aD2 ch i j cD2),(Fz n2 y11),(bk n13 (DK.arr y22) 127),(bk (n13+1) #[(Ac i),Ac j] 121)]⟩ rfl ⟨(congrArg Value.bool h24),Af⟩ ?_
     refine MO z 2 6 (CU c ch true i++Cm i y11 ch true j) [(⟨(i:Int),(j:Int)⟩:Fj)] Fj.cells 121 2 16 (.slice aS2 ((CU c ch true i++Cm i y11 ch true j).length) cS2) (n13+1) 1 1 #[(Ac i),Ac j] 121 (0,0) true (some 45) (by simp only[List.length_cons,List.length_nil,List.length_append];omega) (show z≤n13+2 by omega) (fun ax25 cp26 n27 (hn28:n13+2≤n27) => ?_)
     refine Cc 6 0 [] [[o0],[(ov (i6 ((j+1:Nat):Int))),o0]] [Wr ((j:Int)+1) (((j+1:Nat):Int))] [(1,i6 ch),(EW y11 c aD2 ch i j cD2),(6,Ac i),(E8 c b4 o5),(DU c),(13,Ac i),(FC y11 b15 o16),(Gu y11),(JV j),(4,.slice ax25 ((CU c ch true i++Cm i y11 ch true j++[(⟨(i:Int),(j:Int)⟩:Fj)]).length) cp26)] rfl ⟨CB,Af⟩ ?_
     refine BX [0,1,2,3,4] [(Ak w),(Ey z c),(Ci z 121 2 Fj.cells (.slice ax25 ((CU c ch true i++Cm i y11 ch true j++[(⟨(i:Int),(j:Int)⟩:Fj)]).length) cp26) (CU c ch true i++Cm i y11 ch true j++[(⟨(i:Int),(j:Int)⟩:Fj)])),(EQ y11 z c aD2 ch i j cD2),(Fz n2 y11)] rfl rfl ?_
     have hTtrue:=NJ (p:=i) (x:=y11) (k:=ch) (b:=true) (j:=j) (by rw[←hy22];exact Vq (by omega) (by revert h24;cases y22.Source <;> simp))
     have hTfalse:=JM (p:=i) (x:=y11) (k:=ch) (b:=false) (j:=j) (by rw[←hy22];exact Ti (by revert h24;cases y22.Source <;> simp))
     refine FT [1,4,5,6,11,12,13,19,20,21] [(1,i6 ch),(4,.slice ax25 ((CU c ch true i++Cm i y11 ch true j++[(⟨(i:Int),(j:Int)⟩:Fj)]).length) cp26),(EW y11 c aD2 ch i j cD2),(6,Ac i),(E8 c b4 o5),(DU c),(13,Ac i),(Ew y11),(Gu y11),(JV j)] (by(try dsimp only[Fz,Ey,EQ,EN,EP,Gp,EW,EO,E8,FC,DX,Ew,DU,Gu,Jh,JV]);simp only[ha17];rfl) ?_
     refine Cf (fun a w' hs=>⟨y11.Ar.xs.length - (j+1),by omega,n27,(j+1),ax25,cp26,aD2,cD2,rfl,by omega,by omega,by(try dsimp only[Fz,Ey,EQ,EN,EP,Gp,EW,EO,E8,FC,DX,Ew,DU,Gu,Jh,JV]at hs ⊢);rw[hTtrue,←List.append_assoc,hTfalse];exact hs⟩)
    refine q_c 2 5 [2] [[o0,o0,o0,o0,o0]] [Value.bool y22.Source=Value.bool false] [(1,i6 ch),(EO y11 c ch i j aS2 cS2),(6,Ac i),(E8 c b4 o5),(DU c),(13,Ac i),(FC y11 b15 o16),(Gu y11),(21,Ac j),(26,.slice aD2 ((CU c ch false i++Cm i y11 ch false j).length) cD2),(30,.slice (some ⟨n13+1,0,none⟩) 1 1)] ⟨w,n13+2,[(Ak w),(Ey z c),(EN y11 z c ch i j aS2 cS2),(EQ y11 z c aD2 ch i j cD2),(Fz n2 y11),(bk n13 (DK.arr y22) 127),(bk (n13+1) #[(Ac i),Ac j] 121)]⟩ rfl ⟨(congrArg Value.bool (Bool.eq_false_iff.2 h24)),Af⟩ ?_
    refine MO z 3 6 (CU c ch false i++Cm i y11 ch false j) [(⟨(i:Int),(j:Int)⟩:Fj)] Fj.cells 121 2 16 (.slice aD2 ((CU c ch false i++Cm i y11 ch false j).length) cD2) (n13+1) 1 1 #[(Ac i),Ac j] 121 (0,0) true (some 31) (by simp only[List.length_cons,List.length_nil,List.length_append];omega) (show z≤n13+2 by omega) (fun ax29 cp30 n31 (hn32:n13+2≤n31) => ?_)
    refine Cc 6 0 [] [[o0],[(ov (i6 ((j+1:Nat):Int))),o0]] [Wr ((j:Int)+1) (((j+1:Nat):Int))] [(1,i6 ch),(EO y11 c ch i j aS2 cS2),(6,Ac i),(E8 c b4 o5),(DU c),(13,Ac i),(FC y11 b15 o16),(Gu y11),(JV j),(5,.slice ax29 ((CU c ch false i++Cm i y11 ch false j++[(⟨(i:Int),(j:Int)⟩:Fj)]).length) cp30)] rfl ⟨CB,Af⟩ ?_
    refine BX [0,1,2,3,4] [(Ak w),(Ey z c),(EN y11 z c ch i j aS2 cS2),(Ci z 121 2 Fj.cells (.slice ax29 ((CU c ch false i++Cm i y11 ch false j++[(⟨(i:Int),(j:Int)⟩:Fj)]).length) cp30) (CU c ch false i++Cm i y11 ch false j++[(⟨(i:Int),(j:Int)⟩:Fj)])),(Fz n2 y11)] rfl rfl ?_
    have hTtrue:=JM (p:=i) (x:=y11) (k:=ch) (b:=true) (j:=j) (by rw[←hy22];exact Ti (by revert h24;cases y22.Source <;> simp))
    have hTfalse:=NJ (p:=i) (x:=y11) (k:=ch) (b:=false) (j:=j) (by rw[←hy22];exact Vq (by omega) (by revert h24;cases y22.Source <;> simp))
    refine FT [1,4,5,6,11,12,13,19,20,21] [(1,i6 ch),(EO y11 c ch i j aS2 cS2),(5,.slice ax29 ((CU c ch false i++Cm i y11 ch false j++[(⟨(i:Int),(j:Int)⟩:Fj)]).length) cp30),(6,Ac i),(E8 c b4 o5),(DU c),(13,Ac i),(Ew y11),(Gu y11),(JV j)] (by(try dsimp only[Fz,Ey,EQ,EN,EP,Gp,EW,EO,E8,FC,DX,Ew,DU,Gu,Jh,JV]);simp only[ha17];rfl) ?_
    refine Cf (fun a w' hs=>⟨y11.Ar.xs.length - (j+1),by omega,n31,(j+1),aS2,cS2,ax29,cp30,rfl,by omega,by omega,by(try dsimp only[Fz,Ey,EQ,EN,EP,Gp,EW,EO,E8,FC,DX,Ew,DU,Gu,Jh,JV]at hs ⊢);rw[hTtrue,hTfalse,←List.append_assoc];exact hs⟩)
   refine Az 10 0 [1] [[o0,(a1 5),o0,oT,o0],[(ov (i6 ((j+1:Nat):Int))),o0]] [Qb n13,NT y22.Channel ch,Wr ((j:Int)+1) (((j+1:Nat):Int))] [(1,i6 ch),(EO y11 c ch i j aS2 cS2),(EW y11 c aD2 ch i j cD2),(6,Ac i),(E8 c b4 o5),(DU c),(13,Ac i),(FC y11 b15 o16),(Gu y11),(JV j)] rfl ⟨rfl,nt,CB,Af⟩ ?_
   refine BX [0,1,2,3,4] [(Ak w),(Ey z c),(EN y11 z c ch i j aS2 cS2),(EQ y11 z c aD2 ch i j cD2),(Fz n2 y11)] rfl rfl ?_
   have hTtrue:=JM (p:=i) (x:=y11) (k:=ch) (b:=true) (j:=j) (by rw[←hy22];exact UE (by omega))
   have hTfalse:=JM (p:=i) (x:=y11) (k:=ch) (b:=false) (j:=j) (by rw[←hy22];exact UE (by omega))
   refine FT [1,4,5,6,11,12,13,19,20,21] [(1,i6 ch),(EO y11 c ch i j aS2 cS2),(EW y11 c aD2 ch i j cD2),(6,Ac i),(E8 c b4 o5),(DU c),(13,Ac i),(Ew y11),(Gu y11),(JV j)] (by(try dsimp only[Fz,Ey,EQ,EN,EP,Gp,EW,EO,E8,FC,DX,Ew,DU,Gu,Jh,JV]);simp only[ha17];rfl) ?_
   refine Cf (fun a w' hs=>⟨y11.Ar.xs.length - (j+1),by omega,(n13+1),(j+1),aS2,cS2,aD2,cD2,rfl,by omega,by omega,by(try dsimp only[Fz,Ey,EQ,EN,EP,Gp,EW,EO,E8,FC,DX,Ew,DU,Gu,Jh,JV]at hs ⊢);rw[hTtrue,hTfalse];exact hs⟩)
  refine Az 13 0 [0] [[oF],[(ov (i6 ((i+1:Nat):Int))),o0]] [BF ((j:Int)<(y11.Ar.xs.length:Int)),Wr ((i:Int)+1) (((i+1:Nat):Int))] [(1,i6 ch),(EO y11 c ch i j aS2 cS2),(EW y11 c aD2 ch i j cD2),(E8 c b4 o5),(DU c),(13,i6 ((i+1:Nat):Int))] rfl ⟨bf,CB,Af⟩ ?_
  refine BX [0,1,2,3] [(Ak w),(Ey z c),(EN y11 z c ch i j aS2 cS2),(EQ y11 z c aD2 ch i j cD2)] rfl rfl ?_
  refine FT [1,4,5,11,12,13] [(1,i6 ch),(EO y11 c ch i j aS2 cS2),(EW y11 c aD2 ch i j cD2),(DX c),(DU c),(13,i6 ((i+1:Nat):Int))] (by(try dsimp only[Fz,Ey,EQ,EN,EP,Gp,EW,EO,E8,FC,DX,Ew,DU,Gu,Jh,JV]);simp only[ha6];rfl) ?_
  refine Cf (fun a w' hs=>⟨c.Aa.xs.length - (i+1),by omega,n13,(i+1),aS2,cS2,aD2,cD2,rfl,by omega,by omega,by(try dsimp only[Fz,Ey,EQ,EN,EP,Gp,EW,EO,E8,FC,DX,Ew,DU,Gu,Jh,JV]at hs ⊢);rw[Kv,Kv,←hy11,show y11.Ar.xs.length=j by omega];exact hs⟩)
 refine Az 15 0 [0] [[oF],[o0,o0,o0,o0]] [BF ((i:Int)<(c.Aa.xs.length:Int))] [(4,.slice aS ((CU c ch true i).length) cS),(Jh c ch i aD cD)] rfl ⟨bf,Af⟩ ?_
 refine AO [] [] (.tuple #[.slice aS ((CU c ch true i).length) cS,.slice aD ((CU c ch false i).length) cD]) Af ?_
 intro w33 hw33
 have e0:i=c.Aa.xs.length:=by omega
 subst e0
 refine⟨_,_,_,_,rfl,hz ▸ Qp (fun _=>rfl) (hw33.at (i:=2) rfl) (by unfold BV;omega),hz ▸ Qp (fun _=>rfl) (hw33.at (i:=3) rfl) (by unfold BV;omega),Bi hw33⟩
section
variable (z:Nat)(c:Aj)(b11 o12:Nat)(b27 o28:Nat)
abbrev KD:=bk z (Aj.arr c) 26
abbrev RS:Dc:=(30,.slice (some ⟨b11,o12,none⟩) c.Aa.xs.length c.Aa.cap)
abbrev NI:Dc:=(42,.slice (some ⟨b27,o28,none⟩) c.Ah.xs.length c.Ah.cap)
abbrev Oy:Dc:=(30,.slice c.Aa.a c.Aa.xs.length c.Aa.cap)
abbrev PH:Dc:=(42,.slice c.Ah.a c.Ah.xs.length c.Ah.cap)
abbrev Ls:=(31,Ac c.Aa.xs.length)
abbrev JP:=(43,Ac c.Ah.xs.length)
end
theorem Yb(w:World)(c:Aj)(hc:Aj.ok Any w c):Calls Tryd.prog 37 #[.agg (Aj.arr c)] w fun e w'=>e = .returned (.bool (Eh c))∧CZ (fun _=>False) w w':=by
 obtain⟨z,hz⟩:∃ z,z=w.heap.size:=⟨_,rfl⟩
 refine Cb (args:=[.agg (Aj.arr c)]) 82 ⟨w,z,[(Ak w)]⟩ Tryd.func37 rfl (by kernel_rfl) (by kernel_rfl) (ES hz) ?_
 have hlC:=hc.Ah.1.len
 refine Ee [0] [(0,.agg (Aj.arr c))] ?_
 refine q_c 6 0 [] [[o0,o0]] [] [(1,pt z)] ⟨w,z+1,[(Ak w),(KD z c)]⟩ rfl Af ?_
 by_cases h1:(c.Kernel:Int)<0
 ·refine Az 9 0 [1] [[o0,(a1 1),oT,o0,o0,o0,o0,o0,o0],[o0]] [Qb z,BT ((c.Kernel:Int)<0)] [(2,.bool false)] rfl ⟨rfl,bt,Af⟩ ?_
  refine AO [] [] (.bool false) Af ?_
  intro w2 hw2
  refine⟨congrArg (fun b=>Ending.returned (Value.bool b)) (Eq.symm (?_:Eh c=false)),Bi hw2⟩
  exact NS (by omega)
 by_cases h3:(c.Kernel:Int)<1024
 ·by_cases h4:(8:Int)<(c.Aa.xs.length:Int)
  ·refine Az 9 0 [1] [[o0,(a1 1),oF,o0,o0,(a1 1),oF,o0,o0,o0,(a1 1),o0,oT,o0,o0,o0],[o0]] [Qb z,BF ((c.Kernel:Int)<0),Qb z,BF ((c.Kernel:Int)≥1024),Qb z,BT ((c.Aa.xs.length:Int) > 8)] [(2,.bool false)] rfl ⟨rfl,bf,rfl,bf,rfl,bt,Af⟩ ?_
   refine AO [] [] (.bool false) Af ?_
   intro w5 hw5
   refine⟨congrArg (fun b=>Ending.returned (Value.bool b)) (Eq.symm (?_:Eh c=false)),Bi hw5⟩
   exact NS (by omega)
  by_cases h6:(16:Int)<(c.Ah.xs.length:Int)
  ·refine Az 9 0 [1] [[o0,(a1 1),oF,o0,o0,(a1 1),oF,o0,o0,o0,(a1 1),o0,oF,o0,o0,o0,(a1 1),o0,oT,o0],[o0]] [Qb z,BF ((c.Kernel:Int)<0),Qb z,BF ((c.Kernel:Int)≥1024),Qb z,BF ((c.Aa.xs.length:Int) > 8),Qb z,BT ((c.Ah.xs.length:Int) > 16)] [(2,.bool false)] rfl ⟨rfl,bf,rfl,bf,rfl,bf,rfl,bt,Af⟩ ?_
   refine AO [] [] (.bool false) Af ?_
   intro w7 hw7
   refine⟨congrArg (fun b=>Ending.returned (Value.bool b)) (Eq.symm (?_:Eh c=false)),Bi hw7⟩
   exact NS (by omega)
  refine Az 12 0 [0] [[o0,(a1 1),oF,o0,o0,(a1 1),oF,o0,o0,o0,(a1 1),o0,oF,o0,o0,o0,(a1 1),o0,oF,o0],[o0,(a1 1),o0,o0]] [Qb z,BF ((c.Kernel:Int)<0),Qb z,BF ((c.Kernel:Int)≥1024),Qb z,BF ((c.Aa.xs.length:Int) > 8),Qb z,BF ((c.Ah.xs.length:Int) > 16),Qb z] [(1,pt z),(Oy c),(Ls c),(32,i6 0)] rfl ⟨rfl,bf,rfl,bf,rfl,bf,rfl,bf,rfl,Af⟩ ?_
  refine DY (fun m a w'=>∃ (n9:Nat) (k:Nat),m=c.Aa.xs.length - k∧z+1≤n9∧(k≤c.Aa.xs.length)∧(∀ i,i<k→DI c.Ah.xs.length (gd c.Aa.xs i)=true)∧St 82 [(1,pt z),(Oy c),(Ls c),(32,Ac k)] [] ⟨w,n9,[(Ak w),(KD z c)]⟩ a w') (c.Aa.xs.length - 0) ?_ ?_
  ·intro a w' hs;exact⟨(z+1),0,rfl,Nat.le_refl _,Nat.zero_le _,fun i hi=>absurd hi (Nat.not_lt_zero i),hs⟩
  rintro m a w' ⟨n9,k,rfl,hn8,hkk,hp,hs⟩
  refine(?_:G Tryd.prog 82 [(1,pt z),(Oy c),(Ls c),(32,Ac k)] [] ⟨w,n9,[(Ak w),(KD z c)]⟩ _ _ _) a w' hs
  clear hs a w'
  refine DW ?_
  by_cases h10:(k:Int)<(c.Aa.xs.length:Int)
  ·refine Az 10 0 [1] [[oT]] [BT ((k:Int)<(c.Aa.xs.length:Int))] [(1,pt z),(Oy c),(Ls c),(32,Ac k),(33,.bool true)] rfl ⟨bt,Af⟩ ?_
   obtain⟨b11,o12,ha13,hF15,hc14⟩:=(hc.Aa).1.all (show 0<c.Aa.xs.length by omega)
   replace ha13:c.Aa.a=some ⟨b11,o12,none⟩:=ha13
   refine Ku [(1,pt z),(RS c b11 o12),(Ls c),(32,Ac k),(33,.bool true)] (by(try dsimp only[KD,RS,Oy,Ls]);simp only[ha13]) ?_
   have hc16:=hc14 k (show k<c.Aa.xs.length by omega)
   have he17:=(hc.Aa).2 k (show k<c.Aa.xs.length by omega)
   obtain⟨y18,hy18⟩:∃ y_,y_=gd c.Aa.xs k:=⟨_,rfl⟩
   rw[←hy18]at he17 hc16
   refine q_c 5 2 [] [[(oi k),(ol 0 (Aq.arr y18)),o0,(an 8 2)],[(an 7 1),(an 8 2)]] [DJ k,k<c.Aa.xs.length,Di,He w b11 (o12+k*8) (Aq.arr y18),Qb n9,Qb n9,Qb n9,Qb n9,Qb n9,Qb n9,Qb n9,Qb n9,Qb z,Qb z,Qb z,Qb z,Qb z,Qb z,Qb z,Qb n9,Qb n9,Qb n9,Qb n9,Qb n9,Qb n9,Qb n9,Qb n9] [(1,pt z),(RS c b11 o12),(Ls c),(32,Ac k),(36,.agg (Aj.arr c)),(37,.agg (Aq.arr y18))] ⟨w,n9+1,[(Ak w),(KD z c),(bk n9 (Aq.arr y18) 52)]⟩ rfl ⟨rfl,(by omega),rfl,EH hc16,rfl,rfl,rfl,rfl,rfl,rfl,rfl,rfl,rfl,rfl,rfl,rfl,rfl,rfl,rfl,rfl,rfl,rfl,rfl,rfl,rfl,rfl,rfl,Af⟩ ?_
   refine BI 76 #[.agg (Aj.arr c),.agg (Aq.arr y18)] (some 38) (.bool (DI c.Ah.xs.length y18)) (fun w19 hw19=>P5 w19 c y18 (hc.ext (hw19.ext rfl) (fun _ h=>h)) (he17.ext (hw19.ext rfl) (fun _ h=>h))) (fun n20 (hn21:n9+1≤n20) => ?_)
   refine DZ [1,30,31,32,38] [(1,pt z),(RS c b11 o12),(Ls c),(32,Ac k),(38,.bool (DI c.Ah.xs.length y18))] ?_
   by_cases h22:(DI c.Ah.xs.length y18)=true
   ·refine Cc 8 0 [0] [[(ov (.bool false))],[(ov (i6 ((k+1:Nat):Int))),o0]] [Value.bool (!(DI c.Ah.xs.length y18))=Value.bool false,Wr ((k:Int)+1) (((k+1:Nat):Int))] [(1,pt z),(RS c b11 o12),(Ls c),(32,i6 ((k+1:Nat):Int))] rfl ⟨by simp[h22],CB,Af⟩ ?_
    refine BX [0,1] [(Ak w),(KD z c)] rfl rfl ?_
    refine FT [1,30,31,32] [(1,pt z),(Oy c),(Ls c),(32,i6 ((k+1:Nat):Int))] (by(try dsimp only[KD,RS,Oy,Ls]);simp only[ha13];rfl) ?_
    refine Cf (fun a w' hs=>⟨c.Aa.xs.length - (k+1),by omega,n20,(k+1),rfl,by omega,by omega,upto hp (by rw[←hy18];exact h22),hs⟩)
   refine Cc 8 0 [1] [[(ov (.bool true))],[o0]] [Value.bool (!(DI c.Ah.xs.length y18))=Value.bool true] [(2,.bool false)] rfl ⟨by simp[h22],Af⟩ ?_
   refine AO [] [] (.bool false) Af ?_
   intro w23 hw23
   refine⟨congrArg (fun b=>Ending.returned (Value.bool b)) (Eq.symm (?_:Eh c=false)),Bi hw23⟩
   exact YJ (k:=k) (by omega) (by rw[←hy18];exact Bool.eq_false_iff.2 h22)
  refine Az 16 0 [0] [[oF],[o0,(a1 1),o0,o0]] [BF ((k:Int)<(c.Aa.xs.length:Int)),Qb z] [(1,pt z),(PH c),(JP c),(44,i6 0)] rfl ⟨bf,rfl,Af⟩ ?_
  refine DY (fun m a w'=>∃ (n25:Nat) (k2:Nat),m=c.Ah.xs.length - k2∧n9≤n25∧(k2≤c.Ah.xs.length)∧(∀ i,i<k2→MQ c i=true)∧St 82 [(1,pt z),(PH c),(JP c),(44,Ac k2)] [] ⟨w,n25,[(Ak w),(KD z c)]⟩ a w') (c.Ah.xs.length - 0) ?_ ?_
  ·intro a w' hs;exact⟨n9,0,rfl,Nat.le_refl _,Nat.zero_le _,fun i hi=>absurd hi (Nat.not_lt_zero i),hs⟩
  rintro m a w' ⟨n25,k2,rfl,hn24,hkk2,hch,hs⟩
  refine(?_:G Tryd.prog 82 [(1,pt z),(PH c),(JP c),(44,Ac k2)] [] ⟨w,n25,[(Ak w),(KD z c)]⟩ _ _ _) a w' hs
  clear hs a w'
  refine DW ?_
  by_cases h26:(k2:Int)<(c.Ah.xs.length:Int)
  ·refine Az 10 0 [1] [[oT]] [BT ((k2:Int)<(c.Ah.xs.length:Int))] [(1,pt z),(PH c),(JP c),(44,Ac k2),(45,.bool true)] rfl ⟨bt,Af⟩ ?_
   obtain⟨b27,o28,ha29,hF31,hc30⟩:=(hc.Ah).1.all (show 0<c.Ah.xs.length by omega)
   replace ha29:c.Ah.a=some ⟨b27,o28,none⟩:=ha29
   refine Ku [(1,pt z),(NI c b27 o28),(JP c),(44,Ac k2),(45,.bool true)] (by(try dsimp only[KD,RS,NI,Oy,PH,Ls,JP]);simp only[ha29]) ?_
   have hc32:=hc30 k2 (show k2<c.Ah.xs.length by omega)
   have he33:=(hc.Ah).2 k2 (show k2<c.Ah.xs.length by omega)
   obtain⟨y34,hy34⟩:∃ y_,y_=gd c.Ah.xs k2:=⟨_,rfl⟩
   rw[←hy34]at he33 hc32
   have hsb:=LD y34;have hsp:=JL y34;have hec1:=P7 c k2 true;have hec2:=P7 c k2 false
   refine q_c 5 2 [] [[o0,(oi k2),(ol 0 (AP.arr y34)),o0,o0,(an 3 2)],[(an 7 1),o0]] [DJ k2,k2<c.Ah.xs.length,Di,He w b27 (o28+k2*3) (AP.arr y34),Qb n25,Qb n25,Qb n25,Qb z,Qb z,Qb z,Qb z,Qb z,Qb z,Qb z] [(1,pt z),(NI c b27 o28),(JP c),(44,Ac k2),(6,pt n25),(50,.agg (Aj.arr c)),(51,Ac k2)] ⟨w,n25+1,[(Ak w),(KD z c),(bk n25 (AP.arr y34) 115)]⟩ rfl ⟨rfl,(by omega),rfl,EH hc32,rfl,rfl,rfl,rfl,rfl,rfl,rfl,rfl,rfl,rfl,Af⟩ ?_
   refine l_call [] [] 39 #[.agg (Aj.arr c),Ac k2] (some 52) Af ?_
   intro w35 hw35
   refine(P8 w35 c (k2:Int) (hc.ext (hw35.ext rfl) (fun _ h=>h)) (by omega) (fun i hi=>ML (hp i (by omega)))).mono ?_
   rintro e w36 ⟨ax37,cp38,ax39,cp40,rfl,hSw36,hDw36,hkw36⟩
   have hnw36:n25+1≤w36.heap.size:=Ik hw35 hkw36
   rw[hw35.size]at hSw36 hDw36
   refine⟨_,_,rfl,hw35.SC hkw36, ?_⟩
   refine Cc 5 1 [] [[o0,o0,o0,o0,o0],[(an 3 2)]] [Qb n25,Qb n25,Qb n25] [(1,pt z),(NI c b27 o28),(JP c),(44,Ac k2),(6,pt n25),(7,.slice ax37 ((BV c (k2:Int) true).length) cp38),(8,.slice ax39 ((BV c (k2:Int) false).length) cp40),(55,.agg (AP.arr y34))] rfl ⟨rfl,rfl,rfl,Af⟩ ?_
   refine BI 40 #[.agg (AP.arr y34)] (some 56) (i6 (Bz y34)) (fun w41 hw41=>Ou w41 y34 (he33.ext (hw41.ext rfl) (fun _ h=>h))) (fun n42 (hn43:w36.heap.size≤n42) => ?_)
   refine DZ [1,42,43,44,6,7,8,56] [(1,pt z),(NI c b27 o28),(JP c),(44,Ac k2),(6,pt n25),(7,.slice ax37 ((BV c (k2:Int) true).length) cp38),(8,.slice ax39 ((BV c (k2:Int) false).length) cp40),(56,i6 (Bz y34))] ?_
   by_cases h44:(Bz y34:Int)=0
   ·refine Cc 8 0 [1] [[oT,o0,o0],[o0]] [ET (Bz y34) 0] [(2,.bool false)] rfl ⟨et,Af⟩ ?_
    refine AO [] [] (.bool false) Af ?_
    intro w45 hw45
    refine⟨congrArg (fun b=>Ending.returned (Value.bool b)) (Eq.symm (?_:Eh c=false)),Bi hw45⟩
    exact IE (k:=k2) (by omega) (Jw (by rw[←hy34];first | omega | (left;exact(JL _).1 (by omega))))
   by_cases h46:(y34.Kind:Int)=1
   ·by_cases h47:(y34.Dy:Int)=0
    ·refine Cc 6 0 [0] [[oF,o0,o0,(a1 2),oT,o0,o0,(a1 2),oF,o0,o0]] [EF (Bz y34) 0,Qb n25,ET y34.Kind 1,Qb n25,NF y34.Dy 0] [(1,pt z),(NI c b27 o28),(JP c),(44,Ac k2),(7,.slice ax37 ((BV c (k2:Int) true).length) cp38),(8,.slice ax39 ((BV c (k2:Int) false).length) cp40),(67,.bool false)] rfl ⟨ef,rfl,et,rfl,nf,Af⟩ ?_
     by_cases h48:((((BV c (k2:Int) true).length:Nat):Int):Int)=1
     ·by_cases h49:((((BV c (k2:Int) false).length:Nat):Int):Int)<1
      ·refine Az 9 0 [1] [[o0,o0,oF,o0,o0,o0,oT,o0,o0,o0],[o0]] [NF (((BV c (k2:Int) true).length:Nat):Int) 1,BT (((((BV c (k2:Int) false).length:Nat):Int):Int)<1)] [(2,.bool false)] rfl ⟨nf,bt,Af⟩ ?_
       refine AO [] [] (.bool false) Af ?_
       intro w50 hw50
       refine⟨congrArg (fun b=>Ending.returned (Value.bool b)) (Eq.symm (?_:Eh c=false)),Bi hw50⟩
       exact IE (k:=k2) (by omega) (Jw (by rw[←hy34];first | omega | (left;exact(JL _).1 (by omega))))
      by_cases h51:(4:Int)<(((BV c (k2:Int) false).length:Nat):Int)
      ·refine Az 9 0 [1] [[o0,o0,oF,o0,o0,o0,oF,o0,o0,o0,o0,oT,o0],[o0]] [NF (((BV c (k2:Int) true).length:Nat):Int) 1,BF (((((BV c (k2:Int) false).length:Nat):Int):Int)<1),BT (((((BV c (k2:Int) false).length:Nat):Int):Int) > 4)] [(2,.bool false)] rfl ⟨nf,bf,bt,Af⟩ ?_
       refine AO [] [] (.bool false) Af ?_
       intro w52 hw52
       refine⟨congrArg (fun b=>Ending.returned (Value.bool b)) (Eq.symm (?_:Eh c=false)),Bi hw52⟩
       exact IE (k:=k2) (by omega) (Jw (by rw[←hy34];first | omega | (left;exact(JL _).1 (by omega))))
      refine Az 9 0 [0] [[o0,o0,oF,o0,o0,o0,oF,o0,o0,o0,o0,oF,o0],[(ov (i6 ((k2+1:Nat):Int))),o0]] [NF (((BV c (k2:Int) true).length:Nat):Int) 1,BF (((((BV c (k2:Int) false).length:Nat):Int):Int)<1),BF (((((BV c (k2:Int) false).length:Nat):Int):Int) > 4),Wr ((k2:Int)+1) (((k2+1:Nat):Int))] [(1,pt z),(NI c b27 o28),(JP c),(44,i6 ((k2+1:Nat):Int))] rfl ⟨nf,bf,bf,CB,Af⟩ ?_
      refine BX [0,1] [(Ak w),(KD z c)] rfl rfl ?_
      refine FT [1,42,43,44] [(1,pt z),(PH c),(JP c),(44,i6 ((k2+1:Nat):Int))] (by(try dsimp only[KD,NI,Oy,PH,Ls,JP]);simp only[ha29];rfl) ?_
      refine Cf (fun a w' hs=>⟨c.Ah.xs.length - (k2+1),by omega,n42,(k2+1),rfl,by omega,by omega,upto hch (TT (by rw[←hy34];intro e;exact absurd (hsp.2 e) (by omega)) (by rw[←hy34];omega) (by omega) (by omega)),hs⟩)
     refine Az 9 0 [1] [[o0,o0,oT,o0,o0,o0,o0],[o0]] [NT (((BV c (k2:Int) true).length:Nat):Int) 1] [(2,.bool false)] rfl ⟨nt,Af⟩ ?_
     refine AO [] [] (.bool false) Af ?_
     intro w53 hw53
     refine⟨congrArg (fun b=>Ending.returned (Value.bool b)) (Eq.symm (?_:Eh c=false)),Bi hw53⟩
     exact IE (k:=k2) (by omega) (Jw (by rw[←hy34];first | omega | (left;exact(JL _).1 (by omega))))
    refine Cc 8 0 [1] [[oF,o0,o0,(a1 2),oT,o0,o0,(a1 2),oT,o0,o0],[o0]] [EF (Bz y34) 0,Qb n25,ET y34.Kind 1,Qb n25,NT y34.Dy 0] [(2,.bool false)] rfl ⟨ef,rfl,et,rfl,nt,Af⟩ ?_
    refine AO [] [] (.bool false) Af ?_
    intro w54 hw54
    refine⟨congrArg (fun b=>Ending.returned (Value.bool b)) (Eq.symm (?_:Eh c=false)),Bi hw54⟩
    exact IE (k:=k2) (by omega) (Jw (by rw[←hy34];first | omega | (left;exact(JL _).1 (by omega))))
   refine Cc 6 0 [0] [[oF,o0,o0,(a1 2),oF,o0,o0,o0]] [EF (Bz y34) 0,Qb n25,EF y34.Kind 1] [(1,pt z),(NI c b27 o28),(JP c),(44,Ac k2),(7,.slice ax37 ((BV c (k2:Int) true).length) cp38),(8,.slice ax39 ((BV c (k2:Int) false).length) cp40),(67,.bool false)] rfl ⟨ef,rfl,ef,Af⟩ ?_
   by_cases h55:((((BV c (k2:Int) true).length:Nat):Int):Int)=1
   ·by_cases h56:((((BV c (k2:Int) false).length:Nat):Int):Int)<1
    ·refine Az 9 0 [1] [[o0,o0,oF,o0,o0,o0,oT,o0,o0,o0],[o0]] [NF (((BV c (k2:Int) true).length:Nat):Int) 1,BT (((((BV c (k2:Int) false).length:Nat):Int):Int)<1)] [(2,.bool false)] rfl ⟨nf,bt,Af⟩ ?_
     refine AO [] [] (.bool false) Af ?_
     intro w57 hw57
     refine⟨congrArg (fun b=>Ending.returned (Value.bool b)) (Eq.symm (?_:Eh c=false)),Bi hw57⟩
     exact IE (k:=k2) (by omega) (Jw (by rw[←hy34];first | omega | (left;exact(JL _).1 (by omega))))
    by_cases h58:(4:Int)<(((BV c (k2:Int) false).length:Nat):Int)
    ·refine Az 9 0 [1] [[o0,o0,oF,o0,o0,o0,oF,o0,o0,o0,o0,oT,o0],[o0]] [NF (((BV c (k2:Int) true).length:Nat):Int) 1,BF (((((BV c (k2:Int) false).length:Nat):Int):Int)<1),BT (((((BV c (k2:Int) false).length:Nat):Int):Int) > 4)] [(2,.bool false)] rfl ⟨nf,bf,bt,Af⟩ ?_
     refine AO [] [] (.bool false) Af ?_
     intro w59 hw59
     refine⟨congrArg (fun b=>Ending.returned (Value.bool b)) (Eq.symm (?_:Eh c=false)),Bi hw59⟩
     exact IE (k:=k2) (by omega) (Jw (by rw[←hy34];first | omega | (left;exact(JL _).1 (by omega))))
    refine Az 9 0 [0] [[o0,o0,oF,o0,o0,o0,oF,o0,o0,o0,o0,oF,o0],[(ov (i6 ((k2+1:Nat):Int))),o0]] [NF (((BV c (k2:Int) true).length:Nat):Int) 1,BF (((((BV c (k2:Int) false).length:Nat):Int):Int)<1),BF (((((BV c (k2:Int) false).length:Nat):Int):Int) > 4),Wr ((k2:Int)+1) (((k2+1:Nat):Int))] [(1,pt z),(NI c b27 o28),(JP c),(44,i6 ((k2+1:Nat):Int))] rfl ⟨nf,bf,bf,CB,Af⟩ ?_
    refine BX [0,1] [(Ak w),(KD z c)] rfl rfl ?_
    refine FT [1,42,43,44] [(1,pt z),(PH c),(JP c),(44,i6 ((k2+1:Nat):Int))] (by(try dsimp only[KD,NI,Oy,PH,Ls,JP]);simp only[ha29];rfl) ?_
    refine Cf (fun a w' hs=>⟨c.Ah.xs.length - (k2+1),by omega,n42,(k2+1),rfl,by omega,by omega,upto hch (TT (by rw[←hy34];intro e;exact absurd (hsp.2 e) (by omega)) (by rw[←hy34];omega) (by omega) (by omega)),hs⟩)
   refine Az 9 0 [1] [[o0,o0,oT,o0,o0,o0,o0],[o0]] [NT (((BV c (k2:Int) true).length:Nat):Int) 1] [(2,.bool false)] rfl ⟨nt,Af⟩ ?_
   refine AO [] [] (.bool false) Af ?_
   intro w60 hw60
   refine⟨congrArg (fun b=>Ending.returned (Value.bool b)) (Eq.symm (?_:Eh c=false)),Bi hw60⟩
   exact IE (k:=k2) (by omega) (Jw (by rw[←hy34];first | omega | (left;exact(JL _).1 (by omega))))
  refine Az 15 0 [0] [[oF],[o0]] [BF ((k2:Int)<(c.Ah.xs.length:Int))] [(2,.bool true)] rfl ⟨bf,Af⟩ ?_
  refine AO [] [] (.bool true) Af ?_
  intro w61 hw61
  refine⟨congrArg (fun b=>Ending.returned (Value.bool b)) (Eq.symm (?_:Eh c=true)),Bi hw61⟩
  exact YP (by omega) (by omega) (by omega) (fun i hi=>hp i (by omega)) (fun i hi=>hch i (by omega))
 refine Az 9 0 [1] [[o0,(a1 1),oF,o0,o0,(a1 1),oT,o0,o0,o0,o0,o0],[o0]] [Qb z,BF ((c.Kernel:Int)<0),Qb z,BT ((c.Kernel:Int)≥1024)] [(2,.bool false)] rfl ⟨rfl,bf,rfl,bt,Af⟩ ?_
 refine AO [] [] (.bool false) Af ?_
 intro w62 hw62
 refine⟨congrArg (fun b=>Ending.returned (Value.bool b)) (Eq.symm (?_:Eh c=false)),Bi hw62⟩
 exact NS (by omega)
def MS(g:BD)(n:Nat):List Nat:=(List.range n).map (fun(k:Nat)=>((g.BP+(k:Int)) / 16).toNat)
def Fg(x:Aq)(i:Nat):List Nat:=(List.range i).flatMap (fun r=>MS (gd x.Ai.xs r) (gd x.Ai.xs r).BH.toNat)
def J8(l:List Nat):Array Value:=((List.range 16).map (fun t=>Value.bool (l.contains t))).toArray
theorem U3(l:List Nat):(J8 l).size=16:=by simp[J8]
theorem Xw(l:List Nat){t:Nat}(h:t<16):(J8 l)[t]? = some (Value.bool (l.contains t)):=by simp[J8,h]
theorem Zat(l:List Nat)(t:Nat):J8 (l++[t])=(J8 l).setIfInBounds t (.bool true):=by
 apply Array.ext_getElem?
 intro i
 rw[Array.getElem?_setIfInBounds,U3]
 by_cases hi:i<16
 ·rw[Xw _ hi,Xw _ hi]
  by_cases e:t=i
  ·subst e;simp[hi]
  rw[if_neg e]
  simp[Ne.symm e]
 have h1:∀ l,(J8 l)[i]? = none:=fun l=>Array.getElem?_eq_none (by rw[U3];omega)
 rw[h1,h1]
 by_cases e:t=i
 ·subst e;simp[hi]
 simp[e]
theorem Zk{g:BD}{k:Nat}:MS g (k+1)=MS g k++[((g.BP+(k:Int)) / 16).toNat]:=by
 unfold MS;rw[List.range_succ,List.map_append];rfl
theorem Zj{x:Aq}{i:Nat}:Fg x (i+1)=Fg x i++MS (gd x.Ai.xs i) (gd x.Ai.xs i).BH.toNat:=by
 unfold Fg;rw[List.range_succ,List.flatMap_append];simp
def Iu(x:Aq):Nat:=(List.range 16).countP (fun t=>(Fg x x.Ai.xs.length).contains t)
theorem RV{p:Nat→Bool}{j:Nat}:(List.range (j+1)).countP p=(List.range j).countP p+if p j then 1 else 0:=by
 rw[List.range_succ,List.countP_append];simp[List.countP_singleton]
theorem Rx(x:Aq):Iu x≤16:=Nat.le_trans List.countP_le_length (by simp)
theorem blk_row{b:Nat}{c:Array Value}{t:TypeId}{r:Bool}:RowOf (.blk b (.cells c t (0,0)) r) b 0 c:=fun w hw i v hv=>by
 have hw':w.heap[b]? = some (.cells c t (0,0)):=hw
 simp only[World.cell?,hw',Nat.zero_add];simpa using hv
section
variable (n2:Nat)(y11:BD)(z:Nat)(x:Aq)(j b4 o5:Nat)(w:World)
abbrev Ot:=bk n2 (BD.arr y11) 103
abbrev Kr:=bk z (Aq.arr x) 52
abbrev VX:=(7,i6 ((((List.range j).countP (fun t=>(Fg x x.Ai.xs.length).contains t))+1:Nat):Int))
abbrev RF:=(7,i6 (((List.range j).countP (fun t=>(Fg x x.Ai.xs.length).contains t):Nat):Int))
abbrev LZ:Dc:=(11,.slice (some ⟨b4,o5,none⟩) x.Ai.xs.length x.Ai.cap)
abbrev MW:Dc:=(11,.slice x.Ai.a x.Ai.xs.length x.Ai.cap)
abbrev JB:=(12,Ac x.Ai.xs.length)
abbrev Pv:Dc:=(30,.agg (J8 (Fg x x.Ai.xs.length)))
abbrev JH:=(3,pt (z+1))
abbrev Wp:=[(Ak w),(Kr z x),(bk (z+1) (J8 (Fg x x.Ai.xs.length)) 142)]
end
theorem Y2(w:World)(x:Aq)(hx:Aq.ok Any w x)(hr:∀ i,i<x.Ai.xs.length→Jo (gd x.Ai.xs i)=true):Calls Tryd.prog 42 #[.agg (Aq.arr x)] w fun e w'=>e = .returned (.int .i64 (Iu x:Nat))∧CZ (fun _=>False) w w':=by
 obtain⟨z,hz⟩:∃ z,z=w.heap.size:=⟨_,rfl⟩
 refine Cb (args:=[.agg (Aq.arr x)]) 39 ⟨w,z,[(Ak w)]⟩ Tryd.func42 rfl (by kernel_rfl) (by kernel_rfl) (ES hz) ?_
 have hlR:=hx.Ai.1.len
 refine Ee [0] [(0,.agg (Aq.arr x))] ?_
 refine q_c 14 0 [] [[o0,o0],[o0],[o0,(a1 1),o0,o0]] [Qb z] [(JH z),(MW x),(JB x),(13,i6 0)] ⟨w,z+2,[(Ak w),(Kr z x),(bk (z+1) #[.bool false,.bool false,.bool false,.bool false,.bool false,.bool false,.bool false,.bool false,.bool false,.bool false,.bool false,.bool false,.bool false,.bool false,.bool false,.bool false] 142)]⟩ rfl ⟨rfl,Af⟩ ?_
 refine DY (fun m a w'=>∃ (n2:Nat) (i:Nat),m=x.Ai.xs.length - i∧z+2≤n2∧(i≤x.Ai.xs.length)∧St 39 [(JH z),(MW x),(JB x),(13,Ac i)] [] ⟨w,n2,[(Ak w),(Kr z x),(bk (z+1) (J8 (Fg x i)) 142)]⟩ a w') (x.Ai.xs.length - 0) ?_ ?_
 ·intro a w' hs;exact⟨(z+2),0,rfl,Nat.le_refl _,Nat.zero_le _,hs⟩
 rintro m a w' ⟨n2,i,rfl,hn1,hki,hs⟩
 refine(?_:G Tryd.prog 39 [(JH z),(MW x),(JB x),(13,Ac i)] [] ⟨w,n2,[(Ak w),(Kr z x),(bk (z+1) (J8 (Fg x i)) 142)]⟩ _ _ _) a w' hs
 clear hs a w'
 refine DW ?_
 by_cases h3:(i:Int)<(x.Ai.xs.length:Int)
 ·refine Az 10 0 [1] [[oT]] [BT ((i:Int)<(x.Ai.xs.length:Int))] [(JH z),(MW x),(JB x),(13,Ac i),(14,.bool true)] rfl ⟨bt,Af⟩ ?_
  obtain⟨b4,o5,ha6,hF8,hc7⟩:=(hx.Ai).1.all (show 0<x.Ai.xs.length by omega)
  replace ha6:x.Ai.a=some ⟨b4,o5,none⟩:=ha6
  refine Ku [(JH z),(LZ x b4 o5),(JB x),(13,Ac i),(14,.bool true)] (by(try dsimp only[Kr,LZ,MW,JB,JH]);simp only[ha6]) ?_
  have hc9:=hc7 i (show i<x.Ai.xs.length by omega)
  have he10:=(hx.Ai).2 i (show i<x.Ai.xs.length by omega)
  obtain⟨y11,hy11⟩:∃ y_,y_=gd x.Ai.xs i:=⟨_,rfl⟩
  rw[←hy11]at he10 hc9
  have hrg:=hr i (by omega);rw[←hy11]at hrg;unfold Jo at hrg;rw[decide_eq_true_eq]at hrg
  refine q_c 8 0 [] [[(oi i),(ol 0 (BD.arr y11)),o0,(an 4 3)],[o0,(a1 3),o0]] [DJ i,i<x.Ai.xs.length,Di,He w b4 (o5+i*4) (BD.arr y11),Qb n2,Qb n2,Qb n2,Qb n2,Qb n2] [(JH z),(5,pt n2),(LZ x b4 o5),(JB x),(13,Ac i),(18,i6 y11.BH),(19,i6 0)] ⟨w,n2+1,[(Ak w),(Kr z x),(bk (z+1) (J8 (Fg x i)) 142),(Ot n2 y11)]⟩ rfl ⟨rfl,(by omega),rfl,EH hc9,rfl,rfl,rfl,rfl,rfl,Af⟩ ?_
  refine DY (fun m a w'=>∃ (n13:Nat) (k:Nat),m=y11.BH.toNat - k∧n2+1≤n13∧(k≤y11.BH.toNat)∧St 39 [(JH z),(5,pt n2),(LZ x b4 o5),(JB x),(13,Ac i),(18,i6 y11.BH),(19,Ac k)] [] ⟨w,n13,[(Ak w),(Kr z x),(bk (z+1) (J8 (Fg x i++MS y11 k)) 142),(Ot n2 y11)]⟩ a w') (y11.BH.toNat - 0) ?_ ?_
  ·intro a w' hs;exact⟨(n2+1),0,rfl,Nat.le_refl _,Nat.zero_le _,by(try dsimp only[Ot,Kr,LZ,MW,JB,JH]at hs ⊢);rw[show MS y11 0=[]from rfl,List.append_nil];exact hs⟩
  rintro m a w' ⟨n13,k,rfl,hn12,hkk,hs⟩
  refine(?_:G Tryd.prog 39 [(JH z),(5,pt n2),(LZ x b4 o5),(JB x),(13,Ac i),(18,i6 y11.BH),(19,Ac k)] [] ⟨w,n13,[(Ak w),(Kr z x),(bk (z+1) (J8 (Fg x i++MS y11 k)) 142),(Ot n2 y11)]⟩ _ _ _) a w' hs
  clear hs a w'
  refine DW ?_
  by_cases h14:(k:Int)<y11.BH
  ·refine q_c 19 0 [1] [[oT],[o0,o0],[o0,(a1 3),o0,(ov (i6 (y11.BP+(k:Int)))),(ov (i6 ((y11.BP+(k:Int)) / 16))),(oi (((y11.BP+(k:Int)) / 16).toNat)),(oa [.atv 2 undef])],[(ov (i6 ((k+1:Nat):Int))),o0]] [BT ((k:Int)<y11.BH),Qb n2,Wr ((y11.BP:Int)+(k:Int)) (y11.BP+(k:Int)),Wr (Int.tdiv (y11.BP+(k:Int)) 16) ((y11.BP+(k:Int)) / 16),((y11.BP+(k:Int)) / 16:Int)=((((y11.BP+(k:Int)) / 16).toNat:Nat):Int),((y11.BP+(k:Int)) / 16).toNat<16,Di,Di,Qb (z+1),0+(((y11.BP+(k:Int)) / 16).toNat)<(J8 (Fg x i++MS y11 k)).size,Wr ((k:Int)+1) (((k+1:Nat):Int))] [(JH z),(5,pt n2),(LZ x b4 o5),(JB x),(13,Ac i),(18,i6 y11.BH),(19,i6 ((k+1:Nat):Int))] ⟨w,n13,[(Ak w),(Kr z x),(Ch.blk (z+1) (.cells ((J8 (Fg x i++MS y11 k)).setIfInBounds (0+(((y11.BP+(k:Int)) / 16).toNat)) (.bool true)) 142 (0,0)) true),(Ot n2 y11)]⟩ rfl ⟨bt,rfl,CB,congrArg (Value.int .i64) (Nc (by omega) (by omega) (by omega)),(by omega),(by omega),rfl,rfl,rfl,(by rw[U3];omega),CB,Af⟩ ?_
   refine Cf (fun a w' hs=>⟨y11.BH.toNat - (k+1),by omega,n13,(k+1),rfl,by omega,by omega,by(try dsimp only[Ot,Kr,LZ,MW,JB,JH]at hs ⊢);rw[Zk,←List.append_assoc,Zat];simpa only[Nat.zero_add]using hs⟩)
  refine Az 13 0 [0] [[oF],[(ov (i6 ((i+1:Nat):Int))),o0]] [BF ((k:Int)<y11.BH),Wr ((i:Int)+1) (((i+1:Nat):Int))] [(JH z),(LZ x b4 o5),(JB x),(13,i6 ((i+1:Nat):Int))] rfl ⟨bf,CB,Af⟩ ?_
  refine BX [0,1,2] [(Ak w),(Kr z x),(bk (z+1) (J8 (Fg x i++MS y11 k)) 142)] rfl rfl ?_
  refine FT [3,11,12,13] [(JH z),(MW x),(JB x),(13,i6 ((i+1:Nat):Int))] (by(try dsimp only[Ot,Kr,LZ,MW,JB,JH]);simp only[ha6];rfl) ?_
  refine Cf (fun a w' hs=>⟨x.Ai.xs.length - (i+1),by omega,n13,(i+1),rfl,by omega,by omega,by(try dsimp only[Ot,Kr,LZ,MW,JB,JH]at hs ⊢);rw[Zj,←hy11,show y11.BH.toNat=k by omega];exact hs⟩)
 refine Az 20 0 [0] [[oF],[o0],[⟨.row 2 (J8 (Fg x i)),none⟩,o0]] [BF ((i:Int)<(x.Ai.xs.length:Int)),RowOf (bk (z+1) (J8 (Fg x i)) 142) (z+1) 0 (J8 (Fg x i))] [(7,i6 0),(30,.agg (J8 (Fg x i))),(31,i6 0)] rfl ⟨bf,blk_row,Af⟩ ?_
 have e0:i=x.Ai.xs.length:=by omega
 subst e0
 refine DY (fun m a w'=>∃ (n16:Nat) (j:Nat),m=16 - j∧n2≤n16∧(j≤16)∧St 39 [(RF x j),(Pv x),(31,Ac j)] [] ⟨w,n16,(Wp z x w)⟩ a w') (16 - 0) ?_ ?_
 ·intro a w' hs;exact⟨n2,0,rfl,Nat.le_refl _,Nat.zero_le _,hs⟩
 rintro m a w' ⟨n16,j,rfl,hn15,hkj,hs⟩
 refine(?_:G Tryd.prog 39 [(RF x j),(Pv x),(31,Ac j)] [] ⟨w,n16,(Wp z x w)⟩ _ _ _) a w' hs
 clear hs a w'
 have hcl:(List.range j).countP (fun t=>(Fg x x.Ai.xs.length).contains t)≤j:=Nat.le_trans List.countP_le_length (by simp)
 refine DW ?_
 by_cases h17:(j:Int)<16
 ·refine Az 17 0 [1] [[oT],[⟨.aidx j (.bool ((Fg x x.Ai.xs.length).contains j)),none⟩,o0],[o0]] [BT ((j:Int)<16),DJ j,j<16,((J8 (Fg x x.Ai.xs.length)):Array Value)[G5 1 j]? = some (.bool ((Fg x x.Ai.xs.length).contains j))] [(RF x j),(Pv x),(31,Ac j),(34,.bool ((Fg x x.Ai.xs.length).contains j))] rfl ⟨bt,rfl,(by omega),(Xw (t:=j) _ (by omega)),Af⟩ ?_
  by_cases h18:((Fg x x.Ai.xs.length).contains j)=true
  ·refine Az 7 0 [3] [[o0,(ov (i6 ((((List.range j).countP (fun t=>(Fg x x.Ai.xs.length).contains t))+1:Nat):Int))),o0],[(ov (i6 ((j+1:Nat):Int))),o0]] [Value.bool ((Fg x x.Ai.xs.length).contains j)=Value.bool true,Wr (((((List.range j).countP (fun t=>(Fg x x.Ai.xs.length).contains t):Nat):Int):Int)+1) (((((List.range j).countP (fun t=>(Fg x x.Ai.xs.length).contains t))+1:Nat):Int)),Wr ((j:Int)+1) (((j+1:Nat):Int))] [(VX x j),(Pv x),(31,i6 ((j+1:Nat):Int))] rfl ⟨(congrArg Value.bool h18),CB,CB,Af⟩ ?_
   have hT:=RV (p:=fun t=>(Fg x x.Ai.xs.length).contains t) (j:=j)
   simp only[h18,if_true,if_false,Nat.add_zero]at hT
   refine BR [7,30,31] [(VX x j),(Pv x),(31,i6 ((j+1:Nat):Int))] ?_
   refine Cf (fun a w' hs=>⟨16 - (j+1),by omega,n16,(j+1),rfl,by omega,by omega,by(try dsimp only[Ot,Kr,VX,RF,LZ,MW,JB,Pv,JH,Wp]at hs ⊢);rw[hT];exact hs⟩)
  refine Az 6 0 [2] [[(ov (i6 ((j+1:Nat):Int))),o0]] [Value.bool ((Fg x x.Ai.xs.length).contains j)=Value.bool false,Wr ((j:Int)+1) (((j+1:Nat):Int))] [(RF x j),(Pv x),(31,i6 ((j+1:Nat):Int))] rfl ⟨(congrArg Value.bool (Bool.eq_false_iff.2 h18)),CB,Af⟩ ?_
  have hT:=RV (p:=fun t=>(Fg x x.Ai.xs.length).contains t) (j:=j)
  simp only[(Bool.eq_false_iff.2 h18),Bool.false_eq_true,if_true,if_false,Nat.add_zero]at hT
  refine BR [7,30,31] [(RF x j),(Pv x),(31,i6 ((j+1:Nat):Int))] ?_
  refine Cf (fun a w' hs=>⟨16 - (j+1),by omega,n16,(j+1),rfl,by omega,by omega,by(try dsimp only[Ot,Kr,VX,RF,LZ,MW,JB,Pv,JH,Wp]at hs ⊢);rw[hT];exact hs⟩)
 refine Az 15 0 [0] [[oF],[o0,o0]] [BF ((j:Int)<16)] [(2,i6 (((List.range j).countP (fun t=>(Fg x x.Ai.xs.length).contains t):Nat):Int))] rfl ⟨bf,Af⟩ ?_
 refine AO [] [] (i6 (((List.range j).countP (fun t=>(Fg x x.Ai.xs.length).contains t):Nat):Int)) Af ?_
 intro w19 hw19
 refine⟨congrArg (fun n=>Ending.returned (i6 n)) (?_:((((List.range j).countP (fun t=>(Fg x x.Ai.xs.length).contains t):Nat):Int):Int)=(Iu x:Int)),Bi hw19⟩
 rw[show j=16 by omega];rfl
open Go Go.RowKit Go.Proofs.YtjdmhijaanmccaaDoor.Eng Go.Proofs.YtjdmhijaanmccaaDoor.Mem
def CG(c:Aj)(i:Nat):Int:=c.Kernel*16+2+24*(i:Int)
def Og(c:Aj)(i:Nat):Ap:=⟨CG c i,CG c i+2,CG c i+2+17,0,⟨none,0,[]⟩⟩
def Hf(c:Aj)(i:Nat):List Ap:=(List.range i).map (Og c)
theorem Yj{c:Aj}{i:Nat}:Hf c (i+1)=Hf c i++[Og c i]:=by unfold Hf;rw[List.range_succ,List.map_append];rfl
theorem Uk{c:Aj}{i:Nat}:(Hf c i).length=i:=by simp[Hf]
theorem YG{β:Type}[Inhabited β]{f:Nat→β}{n i:Nat}(h:i<n):gd ((List.range n).map f) i=f i:=by
 rw[F8 (by simpa using h)];simp
def Jk(c:Aj)(k:Nat):Nat:=(BV c (k:Int) false).length
def cLen(c:Aj)(k:Nat):Int:=2+Bz (gd c.Ah.xs k)+(Jk c k:Int)*portOf (gd c.Ah.xs k)
def CE(c:Aj):Nat→Int
 | 0=>CG c c.Aa.xs.length
 | k+1=>CE c k+cLen c k
def GR(c:Aj)(k j:Nat):Int:=CE c k+2+Bz (gd c.Ah.xs k)+(j:Int)*portOf (gd c.Ah.xs k)
def Ox(c:Aj)(k d:Nat):Bh:=⟨(gd (BV c (k:Int) false) d).partition,(gd (BV c (k:Int) false) d).port,GR c k d⟩
def EJ(c:Aj)(k j:Nat):List Bh:=(List.range j).map (Ox c k)
theorem Uu{c:Aj}{k j:Nat}:EJ c k (j+1)=EJ c k j++[Ox c k j]:=by unfold EJ;rw[List.range_succ,List.map_append];rfl
theorem Sm{c:Aj}{k j:Nat}:(EJ c k j).length=j:=by simp[EJ]
theorem Yu{c:Aj}{k j:Nat}:GR c k (j+1)=GR c k j+portOf (gd c.Ah.xs k):=by
 unfold GR;rw[show((j+1:Nat):Int)=(j:Int)+1 from by omega,Int.add_mul];omega
theorem Zc{c:Aj}{k:Nat}:CE c (k+1)=GR c k (Jk c k):=by unfold GR;rw[CE,cLen];omega
def IR(c:Aj)(k:Nat)(s:Sl Bh):Au:=⟨CE c k,CE c k+2,(gd (BV c (k:Int) true) 0).partition,(gd (BV c (k:Int) true) 0).port,s⟩
def Nk(c:Aj):Int:=(CE c c.Ah.xs.length+16 - 1) / 16
def DD(c:Aj):Nat→Int
 | 0=>Nk c
 | i+1=>DD c i+1+(Iu (gd c.Aa.xs i):Int)
def EU(c:Aj)(i n:Nat):List Int:=(List.range n).map (fun(k:Nat)=>DD c i+1+(k:Int))
theorem VE{c:Aj}{i n:Nat}:EU c i (n+1)=EU c i n++[DD c i+1+(n:Int)]:=by unfold EU;rw[List.range_succ,List.map_append];rfl
theorem TU{c:Aj}{i n:Nat}:(EU c i n).length=n:=by simp[EU]
def FH(c:Aj)(i:Nat)(s:Sl Int):Ap:=⟨CG c i,CG c i+2,CG c i+2+17,DD c i,s⟩
structure Fine(c:Aj):Prop where
 kn:0≤c.Kernel∧c.Kernel<1024
 pn:c.Aa.xs.length≤8
 cn:c.Ah.xs.length≤16
 parts:∀ i,i<c.Aa.xs.length→DI c.Ah.xs.length (gd c.Aa.xs i)=true
 chans:∀ i,i<c.Ah.xs.length→MQ c i=true
theorem Vf{c:Aj}(h:Eh c=true):Fine c:=by
 unfold Eh at h
 simp only[Bool.and_eq_true,decide_eq_true_eq,List.all_eq_true,List.mem_range]at h
 exact⟨h.1.1.1.1,h.1.1.1.2,h.1.1.2,fun i hi=>h.1.2 _ (by rw[F8 hi];exact List.getElem_mem hi),h.2⟩
theorem Fine.UX{c:Aj}(h:Fine c){k:Nat}(hk:k<c.Ah.xs.length):(BV c (k:Int) true).length=1∧1≤Jk c k∧Jk c k≤4:=by
 have:=h.chans k hk
 unfold MQ at this
 simp only[Bool.and_eq_true,decide_eq_true_eq]at this
 have e1:=P7 c k true
 have e2:=P7 c k false
 unfold Jk
 omega
theorem WV{c:Aj}(h:Fine c){k:Nat}(hk:k<c.Ah.xs.length):2≤cLen c k∧cLen c k≤695:=by
 have h1:=LD (gd c.Ah.xs k)
 have h2:=Ri (gd c.Ah.xs k)
 have h3:=h.UX hk
 unfold cLen
 have h4:=Int.mul_nonneg (show(0:Int)≤(Jk c k:Int)by omega) h2.1
 have h5:=Int.mul_le_mul (show(Jk c k:Int)≤4 by omega) h2.2 h2.1 (by omega)
 omega
theorem Rz{c:Aj}(h:Fine c):∀ (k:Nat),k≤c.Ah.xs.length→CG c c.Aa.xs.length≤CE c k∧CE c k≤CG c c.Aa.xs.length+695*k
 | 0,_=>by simp[CE]
 | k+1,hk=>by
  have h1:=Rz h k (by omega)
  have h2:=WV h (show k<c.Ah.xs.length by omega)
  rw[CE];omega
theorem Yq{c:Aj}(h:Fine c){k j:Nat}(hk:k<c.Ah.xs.length)(hj:j≤4):CE c k≤GR c k j∧GR c k j≤CE c k+695:=by
 have h1:=LD (gd c.Ah.xs k)
 have h2:=Ri (gd c.Ah.xs k)
 unfold GR
 have h4:=Int.mul_nonneg (show(0:Int)≤(j:Int)by omega) h2.1
 have h5:=Int.mul_le_mul (show(j:Int)≤4 by omega) h2.2 h2.1 (by omega)
 omega
theorem ZaL{c:Aj}(h:Fine c):0≤Nk c∧Nk c≤2000:=by
 have h1:=Rz h _ (Nat.le_refl _)
 have h2:=h.kn;have h3:=h.pn;have h4:=h.cn
 unfold Nk
 unfold CG at h1
 omega
theorem Ql{c:Aj}(h:Fine c):∀ (i:Nat),i≤c.Aa.xs.length→0≤DD c i∧DD c i≤2000+17*i
 | 0,_=>by have:=ZaL h;simp only[DD];omega
 | i+1,hi=>by
  have h1:=Ql h i (by omega)
  have h2:=Rx (gd c.Aa.xs i)
  rw[DD];omega
theorem ZA{α:Type}[Inhabited α]{xs:List α}{y:α}:gd (xs++[y]) xs.length=y:=by rw[F8 (by simp)];simp
theorem ZaS{α:Type}[Inhabited α]{xs:List α}{y:α}{q:Nat}(h:q<xs.length):gd (xs++[y]) q=gd xs q:=by
 rw[F8 h,F8 (by simp;omega),List.getElem_append_left h]
theorem LU{α:Type}[Inhabited α]{xs:List α}{y:α}{q:Nat}(h:q<xs.length):gd (xs.set q y) q=y:=by rw[F8 (by simpa using h)];simp
theorem Un{α:Type}[Inhabited α]{xs:List α}{y:α}{q p:Nat}(h:q≠p)(hp:p<xs.length):gd (xs.set q y) p=gd xs p:=by rw[F8 (by simpa using hp),F8 hp,List.getElem_set_ne h]
theorem Yk{α:Type}{xs:List α}{y:α}{i:Nat}(h:i<xs.length):(xs.set i y).take (i+1)=xs.take i++[y]:=by
 rw[List.take_succ_eq_append_getElem (by simpa using h),List.getElem_set_self]
 rw[List.take_set_of_le (Nat.le_refl i)]
theorem Zah{c:Aj}{cs:List Au}{k:Nat}(hl:cs.length=k)(h:∀ q,q<k→∃ a cp,gd cs q=IR c q ⟨a,cp,EJ c q (Jk c q)⟩){y:Au}{a:Option Addr}{cp:Nat}(hy:y=IR c k ⟨a,cp,EJ c k (Jk c k)⟩) :
   ∀ q,q<k+1→∃ a cp,gd (cs++[y]) q=IR c q ⟨a,cp,EJ c q (Jk c q)⟩:=by
 intro q hq
 by_cases e:q=k
 · subst e;subst hl;exact⟨a,cp,by rw[ZA];exact hy⟩
 · rw[ZaS (by omega)];exact h q (by omega)
theorem PZ{α:Type}[Inhabited α]{cells:α→List Value}{sz:Nat}{ok:(Nat→Prop)→World→α→Prop}{F:Nat→Prop}{W:World}:J7 cells sz ok F W ⟨none,0,[]⟩ :=
 ⟨⟨Nat.zero_le _,Nat.le_refl _,fun h=>absurd rfl h⟩,fun i hi=>absurd hi (Nat.not_lt_zero i)⟩
structure Ud(c:Aj)(L:FK):Prop where
 bar:L.QY=c.Kernel*16
 fin:L.End=DD c c.Aa.xs.length
 pl:L.Aa.xs.length=c.Aa.xs.length
 ps:∀ p,p<c.Aa.xs.length→∃ a cp,gd L.Aa.xs p=FH c p ⟨a,cp,EU c p (Iu (gd c.Aa.xs p))⟩
 cl:L.Ah.xs.length=c.Ah.xs.length
 cs:∀ k,k<c.Ah.xs.length→∃ a cp,gd L.Ah.xs k=IR c k ⟨a,cp,EJ c k (Jk c k)⟩
end Go.Proofs.YtjdmhijaanmccaaDoor.Ly
