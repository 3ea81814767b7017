/- Packed: Ag, La, Lb, Lc, Le, Lf, Lg, Lh, Li, Lz, Ah, Ai. No conditions. -/
import Derived.Test.YtjdmhijaanmccaaDoorPk2
import Derived.WalkKit
set_option maxHeartbeats 4000000
namespace Go.Proofs.YtjdmhijaanmccaaDoor.Ad
open Go Go.Proofs.YtjdmhijaanmccaaDoor.Eng Go.Proofs.YtjdmhijaanmccaaDoor.Mem Go.Proofs.YtjdmhijaanmccaaDoor.Ly
set_option linter.unusedSimpArgs false
set_option linter.unusedVariables false
set_option maxRecDepth 100000
def Pz(c:Aj)(k n:Nat)(x:BK):List Ai:=[Ae (win x.Partition (-1) ((c.Aa.xs.length:Nat) - 1)&&win x.BA 1 16384) 419 ⟨(k:Int),(n:Int)⟩,Ae (win x.A8 82 16384) 420 ⟨(k:Int),(n:Int)⟩,Ae (!Ii c k x.Partition) 422 ⟨(k:Int),(n:Int)⟩]
def EY(c:Aj)(k n:Nat):Ai:=AV (Pz c k n (gd (DX c k).xs n))
def sumW(xs:List BK)(n:Nat):Int:=(List.range n).foldl (fun s i=>s+((gd xs i).BA+(gd xs i).A8)) 0
theorem Zd(xs:List BK)(n:Nat):sumW xs (n+1)=sumW xs n+((gd xs n).BA+(gd xs n).A8):=by unfold sumW;rw[List.range_succ,List.foldl_append];rfl
theorem Kv{l:List Ai}(h:AV l=BU):∀ x∈l,x=BU:=by
 induction l with
 | nil=>intro x hx;cases hx
 | cons a r ih =>
  unfold AV at h
  by_cases e:a=BU
  ·rw[if_pos e]at h
   intro x hx
   rcases List.mem_cons.1 hx with rfl | hx
   ·exact e
   exact ih h x hx
  rw[if_neg e]at h;exact absurd h e
theorem Ru{c:Aj}{k n:Nat}(h:EY c k n=BU):(1≤(gd (DX c k).xs n).BA∧(gd (DX c k).xs n).BA≤16384)∧(82≤(gd (DX c k).xs n).A8∧(gd (DX c k).xs n).A8≤16384):=by
 unfold EY Pz at h
 have h1:=Kv h _ (List.mem_cons_self ..)
 have h2:=Kv h _ (List.mem_cons_of_mem _ (List.mem_cons_self ..))
 rw[Gn (by decide)]at h1 h2
 rw[Bool.and_eq_true]at h1
 exact⟨Es h1.2,Es h2⟩
def ER(c:Aj)(k:Nat):Ai:=if win ((DX c k).xs.length:Nat) 1 16=false then⟨418,⟨(k:Int), -1⟩⟩else if Em BU (EY c k) (DX c k).xs.length=BU then Ae (decide (sumW (DX c k).xs (DX c k).xs.length=c.FQ)) 421 ⟨(k:Int), -1⟩else Em BU (EY c k) (DX c k).xs.length
theorem Rn{f:Nat→Ai}:∀ {n:Nat},(∀ a,a<n→f a=BU)→Em BU f n=BU
 | 0,_=>Oo _ _
 | n+1,h=>(Ob (Rn (fun a ha=>h a (by omega)))).trans (h n (by omega))
theorem coreQ_a{c:Aj}{k:Nat}(h:¬ win ((DX c k).xs.length:Nat) 1 16=true):ER c k=⟨418,⟨(k:Int), -1⟩⟩:=if_pos (by simpa using h)
theorem coreQ_b{c:Aj}{k n:Nat}(h:win ((DX c k).xs.length:Nat) 1 16=true)(hf:∀ a,a<n→EY c k a=BU)(hn:n<(DX c k).xs.length)(hne:EY c k n≠BU):ER c k=EY c k n:=by
 have h1:=Ob (Rn hf)
 have h2:=KN (k:=n+1) (by rw[h1];exact hne) (show n+1≤(DX c k).xs.length by omega)
 rw[h1]at h2
 unfold ER
 rw[if_neg (by rw[h];simp),h2,if_neg hne]
theorem XG{c:Aj}{k n:Nat}(h:win ((DX c k).xs.length:Nat) 1 16=true)(hf:∀ a,a<n→EY c k a=BU)(hn:n=(DX c k).xs.length):ER c k=Ae (decide (sumW (DX c k).xs n=c.FQ)) 421 ⟨(k:Int), -1⟩:=by
 subst hn
 unfold ER
 rw[if_neg (by rw[h];simp),if_pos (Rn hf)]
section
variable (n46:Nat)(y24:BK)(k n:Nat)(b54 n43:Nat)(n85 b93:Nat)(n82 n125:Nat)(b133 n122:Nat)(n163 b171:Nat)(n160 b47:Nat)(b53 b32:Nat)(b86 b92:Nat)(b71 b126:Nat)(b132 b112:Nat)(b164 b170:Nat)(b150 z n15:Nat)(c:Aj)(b17 o18:Nat)(y8:Sl BK)
abbrev U7:=bk n46 #[i6 ((Ae (win y24.BA 1 16384) 419 ⟨(k:Int),(n:Int)⟩).e),i6 ((Ae (win y24.BA 1 16384) 419 ⟨(k:Int),(n:Int)⟩).Af.First),i6 ((Ae (win y24.BA 1 16384) 419 ⟨(k:Int),(n:Int)⟩).Af.Second),i6 ((Ae (win y24.A8 82 16384) 420 ⟨(k:Int),(n:Int)⟩).e),i6 ((Ae (win y24.A8 82 16384) 420 ⟨(k:Int),(n:Int)⟩).Af.First),i6 ((Ae (win y24.A8 82 16384) 420 ⟨(k:Int),(n:Int)⟩).Af.Second),i6 ((Ae false 422 ⟨(k:Int),(n:Int)⟩).e),i6 ((Ae false 422 ⟨(k:Int),(n:Int)⟩).Af.First),i6 ((Ae false 422 ⟨(k:Int),(n:Int)⟩).Af.Second)] 111
abbrev UW:=bk b54 #[i6 ((Ae (win y24.BA 1 16384) 419 ⟨(k:Int),(n:Int)⟩).e),i6 ((Ae (win y24.BA 1 16384) 419 ⟨(k:Int),(n:Int)⟩).Af.First),i6 ((Ae (win y24.BA 1 16384) 419 ⟨(k:Int),(n:Int)⟩).Af.Second),i6 ((Ae (win y24.A8 82 16384) 420 ⟨(k:Int),(n:Int)⟩).e),i6 ((Ae (win y24.A8 82 16384) 420 ⟨(k:Int),(n:Int)⟩).Af.First),i6 ((Ae (win y24.A8 82 16384) 420 ⟨(k:Int),(n:Int)⟩).Af.Second),i6 ((Ae false 422 ⟨(k:Int),(n:Int)⟩).e),i6 ((Ae false 422 ⟨(k:Int),(n:Int)⟩).Af.First),i6 ((Ae false 422 ⟨(k:Int),(n:Int)⟩).Af.Second)] 111
abbrev RX:=bk n43 #[i6 ((Ae (win y24.BA 1 16384) 419 ⟨(k:Int),(n:Int)⟩).e),i6 ((Ae (win y24.BA 1 16384) 419 ⟨(k:Int),(n:Int)⟩).Af.First),i6 ((Ae (win y24.BA 1 16384) 419 ⟨(k:Int),(n:Int)⟩).Af.Second),i6 ((Ae (win y24.A8 82 16384) 420 ⟨(k:Int),(n:Int)⟩).e),i6 ((Ae (win y24.A8 82 16384) 420 ⟨(k:Int),(n:Int)⟩).Af.First),i6 ((Ae (win y24.A8 82 16384) 420 ⟨(k:Int),(n:Int)⟩).Af.Second),i6 ((Ae false 422 ⟨(k:Int),(n:Int)⟩).e),i6 ((Ae false 422 ⟨(k:Int),(n:Int)⟩).Af.First),i6 ((Ae false 422 ⟨(k:Int),(n:Int)⟩).Af.Second)] 111
abbrev UB:=bk n85 #[i6 ((Ae (win y24.BA 1 16384) 419 ⟨(k:Int),(n:Int)⟩).e),i6 ((Ae (win y24.BA 1 16384) 419 ⟨(k:Int),(n:Int)⟩).Af.First),i6 ((Ae (win y24.BA 1 16384) 419 ⟨(k:Int),(n:Int)⟩).Af.Second),i6 ((Ae (win y24.A8 82 16384) 420 ⟨(k:Int),(n:Int)⟩).e),i6 ((Ae (win y24.A8 82 16384) 420 ⟨(k:Int),(n:Int)⟩).Af.First),i6 ((Ae (win y24.A8 82 16384) 420 ⟨(k:Int),(n:Int)⟩).Af.Second),i6 ((Ae true 422 ⟨(k:Int),(n:Int)⟩).e),i6 ((Ae true 422 ⟨(k:Int),(n:Int)⟩).Af.First),i6 ((Ae true 422 ⟨(k:Int),(n:Int)⟩).Af.Second)] 111
abbrev U3:=bk b93 #[i6 ((Ae (win y24.BA 1 16384) 419 ⟨(k:Int),(n:Int)⟩).e),i6 ((Ae (win y24.BA 1 16384) 419 ⟨(k:Int),(n:Int)⟩).Af.First),i6 ((Ae (win y24.BA 1 16384) 419 ⟨(k:Int),(n:Int)⟩).Af.Second),i6 ((Ae (win y24.A8 82 16384) 420 ⟨(k:Int),(n:Int)⟩).e),i6 ((Ae (win y24.A8 82 16384) 420 ⟨(k:Int),(n:Int)⟩).Af.First),i6 ((Ae (win y24.A8 82 16384) 420 ⟨(k:Int),(n:Int)⟩).Af.Second),i6 ((Ae true 422 ⟨(k:Int),(n:Int)⟩).e),i6 ((Ae true 422 ⟨(k:Int),(n:Int)⟩).Af.First),i6 ((Ae true 422 ⟨(k:Int),(n:Int)⟩).Af.Second)] 111
abbrev SE:=bk n82 #[i6 ((Ae (win y24.BA 1 16384) 419 ⟨(k:Int),(n:Int)⟩).e),i6 ((Ae (win y24.BA 1 16384) 419 ⟨(k:Int),(n:Int)⟩).Af.First),i6 ((Ae (win y24.BA 1 16384) 419 ⟨(k:Int),(n:Int)⟩).Af.Second),i6 ((Ae (win y24.A8 82 16384) 420 ⟨(k:Int),(n:Int)⟩).e),i6 ((Ae (win y24.A8 82 16384) 420 ⟨(k:Int),(n:Int)⟩).Af.First),i6 ((Ae (win y24.A8 82 16384) 420 ⟨(k:Int),(n:Int)⟩).Af.Second),i6 ((Ae true 422 ⟨(k:Int),(n:Int)⟩).e),i6 ((Ae true 422 ⟨(k:Int),(n:Int)⟩).Af.First),i6 ((Ae true 422 ⟨(k:Int),(n:Int)⟩).Af.Second)] 111
abbrev UN:=bk n125 #[i6 ((Ae false 419 ⟨(k:Int),(n:Int)⟩).e),i6 ((Ae false 419 ⟨(k:Int),(n:Int)⟩).Af.First),i6 ((Ae false 419 ⟨(k:Int),(n:Int)⟩).Af.Second),i6 ((Ae (win y24.A8 82 16384) 420 ⟨(k:Int),(n:Int)⟩).e),i6 ((Ae (win y24.A8 82 16384) 420 ⟨(k:Int),(n:Int)⟩).Af.First),i6 ((Ae (win y24.A8 82 16384) 420 ⟨(k:Int),(n:Int)⟩).Af.Second),i6 ((Ae false 422 ⟨(k:Int),(n:Int)⟩).e),i6 ((Ae false 422 ⟨(k:Int),(n:Int)⟩).Af.First),i6 ((Ae false 422 ⟨(k:Int),(n:Int)⟩).Af.Second)] 111
abbrev U9:=bk b133 #[i6 ((Ae false 419 ⟨(k:Int),(n:Int)⟩).e),i6 ((Ae false 419 ⟨(k:Int),(n:Int)⟩).Af.First),i6 ((Ae false 419 ⟨(k:Int),(n:Int)⟩).Af.Second),i6 ((Ae (win y24.A8 82 16384) 420 ⟨(k:Int),(n:Int)⟩).e),i6 ((Ae (win y24.A8 82 16384) 420 ⟨(k:Int),(n:Int)⟩).Af.First),i6 ((Ae (win y24.A8 82 16384) 420 ⟨(k:Int),(n:Int)⟩).Af.Second),i6 ((Ae false 422 ⟨(k:Int),(n:Int)⟩).e),i6 ((Ae false 422 ⟨(k:Int),(n:Int)⟩).Af.First),i6 ((Ae false 422 ⟨(k:Int),(n:Int)⟩).Af.Second)] 111
abbrev RU:=bk n122 #[i6 ((Ae false 419 ⟨(k:Int),(n:Int)⟩).e),i6 ((Ae false 419 ⟨(k:Int),(n:Int)⟩).Af.First),i6 ((Ae false 419 ⟨(k:Int),(n:Int)⟩).Af.Second),i6 ((Ae (win y24.A8 82 16384) 420 ⟨(k:Int),(n:Int)⟩).e),i6 ((Ae (win y24.A8 82 16384) 420 ⟨(k:Int),(n:Int)⟩).Af.First),i6 ((Ae (win y24.A8 82 16384) 420 ⟨(k:Int),(n:Int)⟩).Af.Second),i6 ((Ae false 422 ⟨(k:Int),(n:Int)⟩).e),i6 ((Ae false 422 ⟨(k:Int),(n:Int)⟩).Af.First),i6 ((Ae false 422 ⟨(k:Int),(n:Int)⟩).Af.Second)] 111
abbrev UR:=bk n163 #[i6 ((Ae false 419 ⟨(k:Int),(n:Int)⟩).e),i6 ((Ae false 419 ⟨(k:Int),(n:Int)⟩).Af.First),i6 ((Ae false 419 ⟨(k:Int),(n:Int)⟩).Af.Second),i6 ((Ae (win y24.A8 82 16384) 420 ⟨(k:Int),(n:Int)⟩).e),i6 ((Ae (win y24.A8 82 16384) 420 ⟨(k:Int),(n:Int)⟩).Af.First),i6 ((Ae (win y24.A8 82 16384) 420 ⟨(k:Int),(n:Int)⟩).Af.Second),i6 ((Ae true 422 ⟨(k:Int),(n:Int)⟩).e),i6 ((Ae true 422 ⟨(k:Int),(n:Int)⟩).Af.First),i6 ((Ae true 422 ⟨(k:Int),(n:Int)⟩).Af.Second)] 111
abbrev TL:=bk b171 #[i6 ((Ae false 419 ⟨(k:Int),(n:Int)⟩).e),i6 ((Ae false 419 ⟨(k:Int),(n:Int)⟩).Af.First),i6 ((Ae false 419 ⟨(k:Int),(n:Int)⟩).Af.Second),i6 ((Ae (win y24.A8 82 16384) 420 ⟨(k:Int),(n:Int)⟩).e),i6 ((Ae (win y24.A8 82 16384) 420 ⟨(k:Int),(n:Int)⟩).Af.First),i6 ((Ae (win y24.A8 82 16384) 420 ⟨(k:Int),(n:Int)⟩).Af.Second),i6 ((Ae true 422 ⟨(k:Int),(n:Int)⟩).e),i6 ((Ae true 422 ⟨(k:Int),(n:Int)⟩).Af.First),i6 ((Ae true 422 ⟨(k:Int),(n:Int)⟩).Af.Second)] 111
abbrev QO:=bk n160 #[i6 ((Ae false 419 ⟨(k:Int),(n:Int)⟩).e),i6 ((Ae false 419 ⟨(k:Int),(n:Int)⟩).Af.First),i6 ((Ae false 419 ⟨(k:Int),(n:Int)⟩).Af.Second),i6 ((Ae (win y24.A8 82 16384) 420 ⟨(k:Int),(n:Int)⟩).e),i6 ((Ae (win y24.A8 82 16384) 420 ⟨(k:Int),(n:Int)⟩).Af.First),i6 ((Ae (win y24.A8 82 16384) 420 ⟨(k:Int),(n:Int)⟩).Af.Second),i6 ((Ae true 422 ⟨(k:Int),(n:Int)⟩).e),i6 ((Ae true 422 ⟨(k:Int),(n:Int)⟩).Af.First),i6 ((Ae true 422 ⟨(k:Int),(n:Int)⟩).Af.Second)] 111
abbrev Vf:Ch:= .blk b47 (.cells (Ai.arr (AV [(Ae (win y24.BA 1 16384) 419 ⟨(k:Int),(n:Int)⟩),(Ae (win y24.A8 82 16384) 420 ⟨(k:Int),(n:Int)⟩),(Ae false 422 ⟨(k:Int),(n:Int)⟩)])) 111 (0,0)) true
abbrev VS:Ch:= .blk b53 (.cells (Ai.arr (AV [(Ae (win y24.BA 1 16384) 419 ⟨(k:Int),(n:Int)⟩),(Ae (win y24.A8 82 16384) 420 ⟨(k:Int),(n:Int)⟩),(Ae false 422 ⟨(k:Int),(n:Int)⟩)])) 111 (0,0)) true
abbrev VJ:Ch:= .blk b32 (.cells (Ai.arr (AV [(Ae (win y24.BA 1 16384) 419 ⟨(k:Int),(n:Int)⟩),(Ae (win y24.A8 82 16384) 420 ⟨(k:Int),(n:Int)⟩),(Ae false 422 ⟨(k:Int),(n:Int)⟩)])) 111 (0,0)) true
abbrev VA:Ch:= .blk b86 (.cells (Ai.arr (AV [(Ae (win y24.BA 1 16384) 419 ⟨(k:Int),(n:Int)⟩),(Ae (win y24.A8 82 16384) 420 ⟨(k:Int),(n:Int)⟩),(Ae true 422 ⟨(k:Int),(n:Int)⟩)])) 111 (0,0)) true
abbrev VN:Ch:= .blk b92 (.cells (Ai.arr (AV [(Ae (win y24.BA 1 16384) 419 ⟨(k:Int),(n:Int)⟩),(Ae (win y24.A8 82 16384) 420 ⟨(k:Int),(n:Int)⟩),(Ae true 422 ⟨(k:Int),(n:Int)⟩)])) 111 (0,0)) true
abbrev Vl:Ch:= .blk b71 (.cells (Ai.arr (AV [(Ae (win y24.BA 1 16384) 419 ⟨(k:Int),(n:Int)⟩),(Ae (win y24.A8 82 16384) 420 ⟨(k:Int),(n:Int)⟩),(Ae true 422 ⟨(k:Int),(n:Int)⟩)])) 111 (0,0)) true
abbrev Vs:Ch:= .blk b126 (.cells (Ai.arr (AV [(Ae false 419 ⟨(k:Int),(n:Int)⟩),(Ae (win y24.A8 82 16384) 420 ⟨(k:Int),(n:Int)⟩),(Ae false 422 ⟨(k:Int),(n:Int)⟩)])) 111 (0,0)) true
abbrev Vt:Ch:= .blk b132 (.cells (Ai.arr (AV [(Ae false 419 ⟨(k:Int),(n:Int)⟩),(Ae (win y24.A8 82 16384) 420 ⟨(k:Int),(n:Int)⟩),(Ae false 422 ⟨(k:Int),(n:Int)⟩)])) 111 (0,0)) true
abbrev VI:Ch:= .blk b112 (.cells (Ai.arr (AV [(Ae false 419 ⟨(k:Int),(n:Int)⟩),(Ae (win y24.A8 82 16384) 420 ⟨(k:Int),(n:Int)⟩),(Ae false 422 ⟨(k:Int),(n:Int)⟩)])) 111 (0,0)) true
abbrev VD:Ch:= .blk b164 (.cells (Ai.arr (AV [(Ae false 419 ⟨(k:Int),(n:Int)⟩),(Ae (win y24.A8 82 16384) 420 ⟨(k:Int),(n:Int)⟩),(Ae true 422 ⟨(k:Int),(n:Int)⟩)])) 111 (0,0)) true
abbrev Vk:Ch:= .blk b170 (.cells (Ai.arr (AV [(Ae false 419 ⟨(k:Int),(n:Int)⟩),(Ae (win y24.A8 82 16384) 420 ⟨(k:Int),(n:Int)⟩),(Ae true 422 ⟨(k:Int),(n:Int)⟩)])) 111 (0,0)) true
abbrev Vh:Ch:= .blk b150 (.cells (Ai.arr (AV [(Ae false 419 ⟨(k:Int),(n:Int)⟩),(Ae (win y24.A8 82 16384) 420 ⟨(k:Int),(n:Int)⟩),(Ae true 422 ⟨(k:Int),(n:Int)⟩)])) 111 (0,0)) true
abbrev Bv:=bk (z+1) #[i6 0,i6 0,i6 0] 111
abbrev BD:=bk n15 (BK.arr y24) 101
abbrev Bj:=bk z (Aj.arr c) 26
abbrev NJ:CO:=(65,.agg (Ai.arr (AV [(Ae (win y24.BA 1 16384) 419 ⟨(k:Int),(n:Int)⟩),(Ae (win y24.A8 82 16384) 420 ⟨(k:Int),(n:Int)⟩),(Ae false 422 ⟨(k:Int),(n:Int)⟩)])))
abbrev Ny:CO:=(65,.agg (Ai.arr (AV [(Ae (win y24.BA 1 16384) 419 ⟨(k:Int),(n:Int)⟩),(Ae (win y24.A8 82 16384) 420 ⟨(k:Int),(n:Int)⟩),(Ae true 422 ⟨(k:Int),(n:Int)⟩)])))
abbrev NR:CO:=(65,.agg (Ai.arr (AV [(Ae false 419 ⟨(k:Int),(n:Int)⟩),(Ae (win y24.A8 82 16384) 420 ⟨(k:Int),(n:Int)⟩),(Ae false 422 ⟨(k:Int),(n:Int)⟩)])))
abbrev NG:CO:=(65,.agg (Ai.arr (AV [(Ae false 419 ⟨(k:Int),(n:Int)⟩),(Ae (win y24.A8 82 16384) 420 ⟨(k:Int),(n:Int)⟩),(Ae true 422 ⟨(k:Int),(n:Int)⟩)])))
abbrev NU:CO:=(46,.agg (Ai.arr (Ae (win y24.BA 1 16384) 419 ⟨(k:Int),(n:Int)⟩)))
abbrev I7:CO:=(53,.agg (Ai.arr (Ae (win y24.A8 82 16384) 420 ⟨(k:Int),(n:Int)⟩)))
abbrev Lj:CO:=(63,.agg (Ai.arr (Ae false 422 ⟨(k:Int),(n:Int)⟩)))
abbrev NI:CO:=(46,.agg (Ai.arr (Ae false 419 ⟨(k:Int),(n:Int)⟩)))
abbrev NM:CO:=(63,.agg (Ai.arr (Ae true 422 ⟨(k:Int),(n:Int)⟩)))
abbrev Nu:=(36,i6 ((c.Aa.xs.length:Int) - 1))
abbrev Bh:CO:=(24,.slice (some ⟨b17,o18,none⟩) y8.xs.length y8.cap)
abbrev Bc:=(25,Ac y8.xs.length)
abbrev AU:=(4,pt (z+1))
abbrev Jt:CO:=(24,.slice y8.a y8.xs.length y8.cap)
abbrev Bg:=(5,i6 (sumW (DX c k).xs n))
abbrev Bi:=(7,pt n15)
end
theorem Yp(w:World)(hL:Gz w)(c:Aj)(hc:Aj.ok Any w c)(k:Nat)(hk:k<c.BB.xs.length):Calls Tryd.prog 73 #[.agg (Aj.arr c),.int .i64 (k:Int)] w fun e w'=>e = .returned (.agg (Ai.arr (ER c k)))∧CJ (fun _=>False) w w':=by
 obtain⟨z,hz⟩:∃ z,z=w.heap.size:=⟨_,rfl⟩
 refine BP (args:=[.agg (Aj.arr c),Ac k]) 85 ⟨w,z,[(Ak w)]⟩ Tryd.func73 rfl (by kernel_rfl) (by kernel_rfl) (EQ hz) ?_
 have hpl:=hc.BB.1.len;have hpp:=hc.Aa.1.len
 refine DZ [0,1] [(0,.agg (Aj.arr c)),(1,Ac k)] ?_
 refine q_c 6 0 [] [[o0,o0]] [] [(1,Ac k),(2,pt z),(AU z)] ⟨w,z+2,[(Ak w),(Bj z c),(Bv z)]⟩ rfl Ag ?_
 obtain⟨b1,o2,ha3,hF5,hc4⟩:=(hc.BB).1.all (show 0<c.BB.xs.length by omega)
 replace ha3:c.BB.a=some ⟨b1,o2,none⟩:=ha3
 have hc6:=hc4 k (show k<c.BB.xs.length by omega)
 have he7:=(hc.BB).2 k (show k<c.BB.xs.length by omega)
 obtain⟨y8,hy8⟩:∃ y_,y_=gd c.BB.xs k:=⟨_,rfl⟩
 rw[←hy8]at he7 hc6
 have hyly8:=he7.1.len
 refine A7 1 6 [] [[o0,(Jk 1 b1 o2 c.BB),o0,(oi k),(oa [.via 0 (.slice y8.a y8.xs.length y8.cap)]),o0]] [Qb z,IQ b1 o2 c.BB,Ed k,k<c.BB.xs.length,Dt,Old w b1 (o2+k) (.slice y8.a y8.xs.length y8.cap)] [(1,Ac k),(2,pt z),(AU z),(14,Ac y8.xs.length)] rfl ⟨rfl,IP ha3,rfl,(by omega),rfl,Aq (hc6 0 _ rfl),Ag⟩ ?_
 refine Bz 63 #[(Ac y8.xs.length),i6 1,i6 16] (some 15) (.bool (win (y8.xs.length:Int) 1 16)) (fun w9 hw9=>Bl w9 (y8.xs.length:Int) 1 16) (fun n10 (hn11:z+2≤n10) => ?_)
 refine Dz [1,2,4,15] [(1,Ac k),(2,pt z),(AU z),(15,.bool (win (y8.xs.length:Int) 1 16))] ?_
 by_cases h12:(win (y8.xs.length:Int) 1 16)=true
 ·have hd13:=Es h12
  refine BQ 15 0 [0] [[(ov (.bool false))],[o0],[o0,(Jk 1 b1 o2 c.BB),o0,(oi k),(oa [.via 0 (.slice y8.a y8.xs.length y8.cap)]),o0,o0]] [Value.bool (!(win (y8.xs.length:Int) 1 16))=Value.bool false,Qb z,IQ b1 o2 c.BB,Ed k,k<c.BB.xs.length,Dt,Old w b1 (o2+k) (.slice y8.a y8.xs.length y8.cap)] [(1,Ac k),(2,pt z),(AU z),(5,i6 0),(Jt y8),(Bc y8),(26,i6 0)] rfl ⟨by simp[h12],rfl,IP ha3,rfl,(by omega),rfl,Aq (hc6 0 _ rfl),Ag⟩ ?_
  refine DW (fun m a w'=>∃ (n15:Nat) (n:Nat),m=y8.xs.length - n∧n10≤n15∧(n≤y8.xs.length)∧(∀ a,a<n→EY c k a=BU)∧(0≤sumW (DX c k).xs n∧sumW (DX c k).xs n≤n*32768)∧St 85 [(1,Ac k),(2,pt z),(AU z),(Bg k n c),(Jt y8),(Bc y8),(26,Ac n)] [] ⟨w,n15,[(Ak w),(Bj z c),(Bv z)]⟩ a w') (y8.xs.length - 0) ?_ ?_
  ·intro a w' hs;exact⟨n10,0,rfl,Nat.le_refl _,Nat.zero_le _,fun i hi=>absurd hi (Nat.not_lt_zero i),by simp[sumW],hs⟩
  rintro m a w' ⟨n15,n,rfl,hn14,hkn,hf,hsu,hs⟩
  refine(?_:G Tryd.prog 85 [(1,Ac k),(2,pt z),(AU z),(Bg k n c),(Jt y8),(Bc y8),(26,Ac n)] [] ⟨w,n15,[(Ak w),(Bj z c),(Bv z)]⟩ _ _ _) a w' hs
  clear hs a w'
  refine DC ?_
  by_cases h16:(n:Int)<(y8.xs.length:Int)
  ·refine A7 10 0 [1] [[oT]] [BT ((n:Int)<(y8.xs.length:Int))] [(1,Ac k),(2,pt z),(AU z),(Bg k n c),(Jt y8),(Bc y8),(26,Ac n),(27,.bool true)] rfl ⟨bt,Ag⟩ ?_
   obtain⟨b17,o18,ha19,hF21,hc20⟩:=(he7).1.all (show 0<y8.xs.length by omega)
   replace ha19:y8.a=some ⟨b17,o18,none⟩:=ha19
   refine IM [(1,Ac k),(2,pt z),(AU z),(Bg k n c),(Bh b17 o18 y8),(Bc y8),(26,Ac n),(27,.bool true)] (by(try dsimp only[Bv,Bj,Bh,Bc,AU,Jt,Bg]);simp only[ha19]) ?_
   have hc22:=hc20 n (show n<y8.xs.length by omega)
   have he23:=(he7).2 n (show n<y8.xs.length by omega)
   obtain⟨y24,hy24⟩:∃ y_,y_=gd y8.xs n:=⟨_,rfl⟩
   rw[←hy24]at he23 hc22
   refine q_c 3 0 [] [[o0,(oi n),(ol 0 (BK.arr y24)),o0,o0,(an 3 3)]] [Ed n,n<y8.xs.length,Dt,Ie w b17 (o18+n*3) (BK.arr y24),Qb n15,Qb n15,Qb n15] [(1,Ac k),(2,pt z),(AU z),(Bg k n c),(Bh b17 o18 y8),(Bc y8),(26,Ac n),(Bi n15),(6,Ac n)] ⟨w,n15+1,[(Ak w),(Bj z c),(Bv z),(BD y24 n15)]⟩ rfl ⟨rfl,(by omega),rfl,EL hc22,rfl,rfl,rfl,Ag⟩ ?_
   refine RD (fun a w'=>∃ (n25:Nat) (b8:Nat),n15+1≤n25∧St 85 [(1,Ac k),(2,pt z),(AU z),(Bg k n c),(Bi n15),(8,pt b8),(Bh b17 o18 y8),(Bc y8),(26,Ac n)] [] ⟨w,n25,[(Ak w),(Bj z c),(Bv z),(BD y24 n15),(bk b8 (Ai.arr (EY c k n)) 111)]⟩ a w') ?_ ?_
   ·by_cases h27:(win y24.Partition (-1) ((c.Aa.xs.length:Int) - 1))=true
    ·have hd28:=Es h27
     by_cases h29:(Ii c k y24.Partition)=true
     ·refine DN 36 [0,1,2,3] [(Ak w),(Bj z c),(Bv z),(BD y24 n15)] rfl rfl ?_
      refine Dc [(0,o0),(1,(a1 3)),(2,o0),(3,(a1 1)),(4,o0),(5,(ov (i6 ((c.Aa.xs.length:Int) - 1)))),(12,o0),(13,o0),(16,o0),(17,(a1 3)),(19,o0),(20,o0),(23,(an 7 1)),(24,o0),(25,o0),(26,(a1 3)),(29,o0),(30,o0)] [1,2,4,5,24,25,26,7,32,36,43,44,48,50,51,54,55,57,60,61] [Qb n15,Qb z,Wr ((c.Aa.xs.length:Int) - 1) ((c.Aa.xs.length:Int) - 1),Qb n15,Qb z,Qb z,Qb z,Qb z,Qb z,Qb z,Qb z,Qb n15] [true,true,true,true,true,true,false,false,false,false,false,false,true,true,false,false,true,true,false,true,true,false,false,true,true,true,true,false,false,true,true,false,false,false,false,false,false] [(1,Ac k),(2,pt z),(AU z),(Bg k n c),(Bh b17 o18 y8),(Bc y8),(26,Ac n),(Bi n15),(32,i6 y24.Partition),(Nu c),(43,Ac k),(44,Ac n),(48,i6 y24.A8),(50,Ac k),(51,Ac n),(54,.agg (Aj.arr c)),(55,Ac k),(57,i6 y24.Partition),(60,Ac k),(61,Ac n)] ⟨rfl,rfl,CU,rfl,rfl,rfl,rfl,rfl,rfl,rfl,rfl,rfl,Ag⟩ ?_
      refine Ox (fun x:{p:Nat×Nat×Nat // n15+1≤p.1∧n15+1≤p.2.1∧n15+1≤p.2.2}=>([(1,Ac k),(2,pt z),(AU z),(Bg k n c),(Bh b17 o18 y8),(Bc y8),(26,Ac n),(Bi n15),(8,pt x.1.2.2)],⟨w,x.1.1,[(Ak w),(Bj z c),(Bv z),(BD y24 n15),(.blk x.1.2.1 (.cells #[i6 ((Ae (win y24.BA 1 16384) 419 ⟨(k:Int),(n:Int)⟩).e),i6 ((Ae (win y24.BA 1 16384) 419 ⟨(k:Int),(n:Int)⟩).Af.First),i6 ((Ae (win y24.BA 1 16384) 419 ⟨(k:Int),(n:Int)⟩).Af.Second),i6 ((Ae (win y24.A8 82 16384) 420 ⟨(k:Int),(n:Int)⟩).e),i6 ((Ae (win y24.A8 82 16384) 420 ⟨(k:Int),(n:Int)⟩).Af.First),i6 ((Ae (win y24.A8 82 16384) 420 ⟨(k:Int),(n:Int)⟩).Af.Second),i6 ((Ae false 422 ⟨(k:Int),(n:Int)⟩).e),i6 ((Ae false 422 ⟨(k:Int),(n:Int)⟩).Af.First),i6 ((Ae false 422 ⟨(k:Int),(n:Int)⟩).Af.Second)] 111 (0,0)) true),(.blk x.1.2.2 (.cells (Ai.arr (AV [(Ae (win y24.BA 1 16384) 419 ⟨(k:Int),(n:Int)⟩),(Ae (win y24.A8 82 16384) 420 ⟨(k:Int),(n:Int)⟩),(Ae false 422 ⟨(k:Int),(n:Int)⟩)])) 111 (0,0)) true)]⟩)) (fun hK => ?_) ?_
      ·refine Me 35 8 [.cl 6 (.bool (win y24.Partition (-1) ((c.Aa.xs.length:Int) - 1))),.tk 7 (ov (.bool true)),.tk 8 o0,.tk 9 (a1 3),.cl 10 (.bool (win y24.BA 1 16384)),.tk 11 o0,.cl 14 (.agg #[(Ac k),Ac n]),.cl 15 (.agg (Ai.arr (Ae (win y24.BA 1 16384) 419 ⟨(k:Int),(n:Int)⟩))),.cl 18 (.bool (win y24.A8 82 16384)),.cl 21 (.agg #[(Ac k),Ac n]),.cl 22 (.agg (Ai.arr (Ae (win y24.A8 82 16384) 420 ⟨(k:Int),(n:Int)⟩))),.cl 27 (.bool (Ii c k y24.Partition)),.tk 28 (ov (.bool false)),.cl 31 (.agg #[(Ac k),Ac n]),.cl 32 (.agg (Ai.arr (Ae false 422 ⟨(k:Int),(n:Int)⟩)))] [1,2,4,5,24,25,26,7,46,53,63] [(63,#[i6 y24.Partition,i6 (-1),i6 ((c.Aa.xs.length:Int) - 1)],.bool (win y24.Partition (-1) ((c.Aa.xs.length:Int) - 1))),(63,#[i6 y24.BA,i6 1,i6 16384],.bool (win y24.BA 1 16384)),(96,#[(Ac k),Ac n],.agg #[(Ac k),Ac n]),(62,#[.bool (win y24.BA 1 16384),i6 419,.agg #[(Ac k),Ac n]],.agg (Ai.arr (Ae (win y24.BA 1 16384) 419 ⟨(k:Int),(n:Int)⟩))),(63,#[i6 y24.A8,i6 82,i6 16384],.bool (win y24.A8 82 16384)),(96,#[(Ac k),Ac n],.agg #[(Ac k),Ac n]),(62,#[.bool (win y24.A8 82 16384),i6 420,.agg #[(Ac k),Ac n]],.agg (Ai.arr (Ae (win y24.A8 82 16384) 420 ⟨(k:Int),(n:Int)⟩))),(98,#[.agg (Aj.arr c),Ac k,i6 y24.Partition],.bool (Ii c k y24.Partition)),(96,#[(Ac k),Ac n],.agg #[(Ac k),Ac n]),(62,#[.bool false,i6 422,.agg #[(Ac k),Ac n]],.agg (Ai.arr (Ae false 422 ⟨(k:Int),(n:Int)⟩)))] (Dj 33 4) [Value.bool (win y24.Partition (-1) ((c.Aa.xs.length:Int) - 1))=Value.bool true,Qb n15,Value.bool (!(Ii c k y24.Partition))=Value.bool false] [(1,Ac k),(2,pt z),(AU z),(Bg k n c),(Bh b17 o18 y8),(Bc y8),(26,Ac n),(Bi n15),(NU y24 k n),(I7 y24 k n),(Lj k n)] (.cells #[i6 0,i6 0,i6 0] 111 (0,0)) [0,1,2,3] ⟨(congrArg Value.bool h27),rfl,by simp[h29],Ag⟩ ⟨fun w33 hw33=>Bl w33 y24.Partition (-1) ((c.Aa.xs.length:Int) - 1),fun w34 hw34=>Bl w34 y24.BA 1 16384,fun w35 hw35=>EH w35 (k:Int) (n:Int),fun w36 hw36=>AQ w36 (hL.ext (hw36.ext rfl)) (win y24.BA 1 16384) 419 (k:Int) (n:Int),fun w37 hw37=>Bl w37 y24.A8 82 16384,fun w38 hw38=>EH w38 (k:Int) (n:Int),fun w39 hw39=>AQ w39 (hL.ext (hw39.ext rfl)) (win y24.A8 82 16384) 420 (k:Int) (n:Int),fun w40 hw40=>OV w40 c (hc.ext (hw40.ext rfl) (fun _ h=>h)) k hk y24.Partition,fun w41 hw41=>EH w41 (k:Int) (n:Int),fun w42 hw42=>AQ w42 (hL.ext (hw42.ext rfl)) false 422 (k:Int) (n:Int),Ag⟩ ?_ (fun hv45 n43 hn44 => ?_)
       ·rintro⟨⟨n46,b47⟩,hb48⟩
        simp only at hb48
        refine Bo 33 ?_
        refine Bq o0 [8,1,2,4,5,24,25,26,7,64] [] [(8,pt b47),(1,Ac k),(2,pt z),(AU z),(Bg k n c),(Bh b17 o18 y8),(Bc y8),(26,Ac n),(Bi n15),(64,.slice (some ⟨n46,0,none⟩) 3 3)] ⟨w,n46+1,[(Ak w),(Bj z c),(Bv z),(BD y24 n15),(bk b47 #[i6 0,i6 0,i6 0] 111),(U7 n46 y24 k n)]⟩ [0,1,2,3] Ag (.inr rfl) ?_
        refine Bo 34 ?_
        refine EX 91 #[.slice (some ⟨n46,0,none⟩) 3 3] (some 65) (.agg (Ai.arr (AV [(Ae (win y24.BA 1 16384) 419 ⟨(k:Int),(n:Int)⟩),(Ae (win y24.A8 82 16384) 420 ⟨(k:Int),(n:Int)⟩),(Ae false 422 ⟨(k:Int),(n:Int)⟩)]))) [8,1,2,4,5,24,25,26,7,65] [(8,pt b47),(1,Ac k),(2,pt z),(AU z),(Bg k n c),(Bh b17 o18 y8),(Bc y8),(26,Ac n),(Bi n15),(NJ y24 k n)] [0,1,2,3] (fun w49 hw49=>CE w49 (hL.ext (hw49.ext rfl)) ⟨some ⟨n46,0,none⟩,3,[(Ae (win y24.BA 1 16384) 419 ⟨(k:Int),(n:Int)⟩),(Ae (win y24.A8 82 16384) 420 ⟨(k:Int),(n:Int)⟩),(Ae false 422 ⟨(k:Int),(n:Int)⟩)]⟩ (Dy hw49 (i:=5) [(Ae (win y24.BA 1 16384) 419 ⟨(k:Int),(n:Int)⟩),(Ae (win y24.A8 82 16384) 420 ⟨(k:Int),(n:Int)⟩),(Ae false 422 ⟨(k:Int),(n:Int)⟩)]) (show 3≤1000 by decide)) (fun n50 hn51 => ?_)
        replace hn51:n46+1≤n50:=hn51
        refine Bo 36 ?_
        refine Bq (an 3 4) [8,1,2,4,5,24,25,26,7] [Qb b47,Qb b47,Qb b47] [(8,pt b47),(1,Ac k),(2,pt z),(AU z),(Bg k n c),(Bh b17 o18 y8),(Bc y8),(26,Ac n),(Bi n15)] ⟨w,n50,[(Ak w),(Bj z c),(Bv z),(BD y24 n15),(Vf y24 k n b47),(U7 n46 y24 k n)]⟩ [] ⟨rfl,rfl,rfl,Ag⟩ (.inl rfl) ?_
        refine D8 37 [0,1,2,3,4,5] [(Ak w),(Bj z c),(Bv z),(BD y24 n15),(Vf y24 k n b47),(U7 n46 y24 k n)] rfl rfl ?_
        refine CV ?_
        refine BR [1,2,4,5,24,25,26,7,8] [(1,Ac k),(2,pt z),(AU z),(Bg k n c),(Bh b17 o18 y8),(Bc y8),(26,Ac n),(Bi n15),(8,pt b47)] ?_
        refine Cc [0,1,2,3,5,4] [(Ak w),(Bj z c),(Bv z),(BD y24 n15),(U7 n46 y24 k n),(Vf y24 k n b47)] rfl rfl ?_
        exact hK ⟨(n50,n46,b47),by first | omega | (dsimp only;omega)⟩
       replace hn44:n15+1≤n43:=hn44
       refine Kq (fun x:{p:Nat×Nat×Nat // n43≤p.1∧n43≤p.2.1∧n43≤p.2.2}=>[(1,Ac k),(2,pt z),(AU z),(Bg k n c),(Bh b17 o18 y8),(Bc y8),(26,Ac n),(Bi n15),(8,pt x.1.2.1),(NJ y24 k n)]) (fun x=>⟨w,x.1.1,[(Ak w),(Bj z c),(Bv z),(BD y24 n15),(.blk x.1.2.1 (.cells #[i6 0,i6 0,i6 0] 111 (0,0)) true),(.blk x.1.2.2 (.cells #[i6 ((Ae (win y24.BA 1 16384) 419 ⟨(k:Int),(n:Int)⟩).e),i6 ((Ae (win y24.BA 1 16384) 419 ⟨(k:Int),(n:Int)⟩).Af.First),i6 ((Ae (win y24.BA 1 16384) 419 ⟨(k:Int),(n:Int)⟩).Af.Second),i6 ((Ae (win y24.A8 82 16384) 420 ⟨(k:Int),(n:Int)⟩).e),i6 ((Ae (win y24.A8 82 16384) 420 ⟨(k:Int),(n:Int)⟩).Af.First),i6 ((Ae (win y24.A8 82 16384) 420 ⟨(k:Int),(n:Int)⟩).Af.Second),i6 ((Ae false 422 ⟨(k:Int),(n:Int)⟩).e),i6 ((Ae false 422 ⟨(k:Int),(n:Int)⟩).Af.First),i6 ((Ae false 422 ⟨(k:Int),(n:Int)⟩).Af.Second)] 111 (0,0)) true)]⟩) 1 (Dj 36 1) ?_ (fun hv55 => ?_)
       ·rintro⟨⟨n52,b53,b54⟩,hb56⟩
        simp only at hb56
        show Wg _ _ [(1,Ac k),(2,pt z),(AU z),(Bg k n c),(Bh b17 o18 y8),(Bc y8),(26,Ac n),(Bi n15),(8,pt b53),(NJ y24 k n)] _ ⟨w,n52,[(Ak w),(Bj z c),(Bv z),(BD y24 n15),(bk b53 #[i6 0,i6 0,i6 0] 111),(UW y24 k n b54)]⟩ _ _ _ _ _ _ _
        refine Bo 36 ?_
        refine Bq (an 3 4) [1,2,4,5,24,25,26,7,8] [Qb b53,Qb b53,Qb b53] [(1,Ac k),(2,pt z),(AU z),(Bg k n c),(Bh b17 o18 y8),(Bc y8),(26,Ac n),(Bi n15),(8,pt b53)] ⟨w,n52,[(Ak w),(Bj z c),(Bv z),(BD y24 n15),(VS y24 k n b53),(UW y24 k n b54)]⟩ [] ⟨rfl,rfl,rfl,Ag⟩ (.inl rfl) ?_
        refine D8 37 [0,1,2,3,4,5] [(Ak w),(Bj z c),(Bv z),(BD y24 n15),(VS y24 k n b53),(UW y24 k n b54)] rfl rfl ?_
        refine CV ?_
        refine BR [1,2,4,5,24,25,26,7,8] [(1,Ac k),(2,pt z),(AU z),(Bg k n c),(Bh b17 o18 y8),(Bc y8),(26,Ac n),(Bi n15),(8,pt b53)] ?_
        refine Cc [0,1,2,3,5,4] [(Ak w),(Bj z c),(Bv z),(BD y24 n15),(UW y24 k n b54),(VS y24 k n b53)] rfl rfl ?_
        exact hK ⟨(n52,b54,b53),by first | omega | (dsimp only;omega)⟩
       refine Kq (fun x:{p:Nat×Nat×Nat // n43≤p.1∧n43≤p.2.1∧n43≤p.2.2}=>[(1,Ac k),(2,pt z),(AU z),(Bg k n c),(Bh b17 o18 y8),(Bc y8),(26,Ac n),(Bi n15),(8,pt x.1.2.1),(64,.slice (some ⟨x.1.2.2,0,none⟩) 3 3)]) (fun x=>⟨w,x.1.1,[(Ak w),(Bj z c),(Bv z),(BD y24 n15),(.blk x.1.2.1 (.cells #[i6 0,i6 0,i6 0] 111 (0,0)) true),(.blk x.1.2.2 (.cells #[i6 ((Ae (win y24.BA 1 16384) 419 ⟨(k:Int),(n:Int)⟩).e),i6 ((Ae (win y24.BA 1 16384) 419 ⟨(k:Int),(n:Int)⟩).Af.First),i6 ((Ae (win y24.BA 1 16384) 419 ⟨(k:Int),(n:Int)⟩).Af.Second),i6 ((Ae (win y24.A8 82 16384) 420 ⟨(k:Int),(n:Int)⟩).e),i6 ((Ae (win y24.A8 82 16384) 420 ⟨(k:Int),(n:Int)⟩).Af.First),i6 ((Ae (win y24.A8 82 16384) 420 ⟨(k:Int),(n:Int)⟩).Af.Second),i6 ((Ae false 422 ⟨(k:Int),(n:Int)⟩).e),i6 ((Ae false 422 ⟨(k:Int),(n:Int)⟩).Af.First),i6 ((Ae false 422 ⟨(k:Int),(n:Int)⟩).Af.Second)] 111 (0,0)) true)]⟩) 2 [true,true,true,true,true,true,true,true,true,true,true,true,true,true,true,true,true,true,true,true,true,true,true,true,true,true,true,true,true,true,true,true,true,true,false,true,false] ?_ (fun hv60 => ?_)
       ·rintro⟨⟨n57,b58,b59⟩,hb61⟩
        simp only at hb61
        show Wg _ _ [(1,Ac k),(2,pt z),(AU z),(Bg k n c),(Bh b17 o18 y8),(Bc y8),(26,Ac n),(Bi n15),(8,pt b58),(64,.slice (some ⟨b59,0,none⟩) 3 3)] _ ⟨w,n57,[(Ak w),(Bj z c),(Bv z),(BD y24 n15),(bk b58 #[i6 0,i6 0,i6 0] 111),(bk b59 #[i6 ((Ae (win y24.BA 1 16384) 419 ⟨(k:Int),(n:Int)⟩).e),i6 ((Ae (win y24.BA 1 16384) 419 ⟨(k:Int),(n:Int)⟩).Af.First),i6 ((Ae (win y24.BA 1 16384) 419 ⟨(k:Int),(n:Int)⟩).Af.Second),i6 ((Ae (win y24.A8 82 16384) 420 ⟨(k:Int),(n:Int)⟩).e),i6 ((Ae (win y24.A8 82 16384) 420 ⟨(k:Int),(n:Int)⟩).Af.First),i6 ((Ae (win y24.A8 82 16384) 420 ⟨(k:Int),(n:Int)⟩).Af.Second),i6 ((Ae false 422 ⟨(k:Int),(n:Int)⟩).e),i6 ((Ae false 422 ⟨(k:Int),(n:Int)⟩).Af.First),i6 ((Ae false 422 ⟨(k:Int),(n:Int)⟩).Af.Second)] 111)]⟩ _ _ _ _ _ _ _
        refine Bo 34 ?_
        refine EX 91 #[.slice (some ⟨b59,0,none⟩) 3 3] (some 65) (.agg (Ai.arr (AV [(Ae (win y24.BA 1 16384) 419 ⟨(k:Int),(n:Int)⟩),(Ae (win y24.A8 82 16384) 420 ⟨(k:Int),(n:Int)⟩),(Ae false 422 ⟨(k:Int),(n:Int)⟩)]))) [1,2,4,5,24,25,26,7,8,65] [(1,Ac k),(2,pt z),(AU z),(Bg k n c),(Bh b17 o18 y8),(Bc y8),(26,Ac n),(Bi n15),(8,pt b58),(NJ y24 k n)] [0,1,2,3] (fun w62 hw62=>CE w62 (hL.ext (hw62.ext rfl)) ⟨some ⟨b59,0,none⟩,3,[(Ae (win y24.BA 1 16384) 419 ⟨(k:Int),(n:Int)⟩),(Ae (win y24.A8 82 16384) 420 ⟨(k:Int),(n:Int)⟩),(Ae false 422 ⟨(k:Int),(n:Int)⟩)]⟩ (Dy hw62 (i:=5) [(Ae (win y24.BA 1 16384) 419 ⟨(k:Int),(n:Int)⟩),(Ae (win y24.A8 82 16384) 420 ⟨(k:Int),(n:Int)⟩),(Ae false 422 ⟨(k:Int),(n:Int)⟩)]) (show 3≤1000 by decide)) (fun n63 hn64 => ?_)
        replace hn64:n57≤n63:=hn64
        refine CZ [1,2,4,5,24,25,26,7,8,65] [(1,Ac k),(2,pt z),(AU z),(Bg k n c),(Bh b17 o18 y8),(Bc y8),(26,Ac n),(Bi n15),(8,pt b58),(NJ y24 k n)] ?_
        exact hv55 ⟨(n63,b58,b59),by first | omega | (dsimp only;omega)⟩
       refine Ij [33,35] ?_
       refine List.forall_mem_cons.2 ⟨?_,List.forall_mem_cons.2 ⟨?_,fun _ h=>absurd h List.not_mem_nil⟩⟩
       ·refine Bq o0 [1,2,4,5,24,25,26,7,64] [] [(1,Ac k),(2,pt z),(AU z),(Bg k n c),(Bh b17 o18 y8),(Bc y8),(26,Ac n),(Bi n15),(64,.slice (some ⟨n43,0,none⟩) 3 3)] ⟨w,n43+1,[(Ak w),(Bj z c),(Bv z),(BD y24 n15),(RX y24 k n n43)]⟩ [0,1,2,3] Ag (.inr rfl) ?_
        refine Ij [34,35] ?_
        refine List.forall_mem_cons.2 ⟨?_,List.forall_mem_cons.2 ⟨?_,fun _ h=>absurd h List.not_mem_nil⟩⟩
        ·refine EX 91 #[.slice (some ⟨n43,0,none⟩) 3 3] (some 65) (.agg (Ai.arr (AV [(Ae (win y24.BA 1 16384) 419 ⟨(k:Int),(n:Int)⟩),(Ae (win y24.A8 82 16384) 420 ⟨(k:Int),(n:Int)⟩),(Ae false 422 ⟨(k:Int),(n:Int)⟩)]))) [1,2,4,5,24,25,26,7,65] [(1,Ac k),(2,pt z),(AU z),(Bg k n c),(Bh b17 o18 y8),(Bc y8),(26,Ac n),(Bi n15),(NJ y24 k n)] [0,1,2,3] (fun w65 hw65=>CE w65 (hL.ext (hw65.ext rfl)) ⟨some ⟨n43,0,none⟩,3,[(Ae (win y24.BA 1 16384) 419 ⟨(k:Int),(n:Int)⟩),(Ae (win y24.A8 82 16384) 420 ⟨(k:Int),(n:Int)⟩),(Ae false 422 ⟨(k:Int),(n:Int)⟩)]⟩ (Dy hw65 (i:=4) [(Ae (win y24.BA 1 16384) 419 ⟨(k:Int),(n:Int)⟩),(Ae (win y24.A8 82 16384) 420 ⟨(k:Int),(n:Int)⟩),(Ae false 422 ⟨(k:Int),(n:Int)⟩)]) (show 3≤1000 by decide)) (fun n66 hn67 => ?_)
         replace hn67:n43+1≤n66:=hn67
         refine Bo 35 ?_
         refine Bq o0 [1,2,4,5,24,25,26,7,65,8] [] [(1,Ac k),(2,pt z),(AU z),(Bg k n c),(Bh b17 o18 y8),(Bc y8),(26,Ac n),(Bi n15),(NJ y24 k n),(8,pt n66)] ⟨w,n66+1,[(Ak w),(Bj z c),(Bv z),(BD y24 n15),(RX y24 k n n43),(bk n66 #[i6 0,i6 0,i6 0] 111)]⟩ [0,1,2,3] Ag (.inr rfl) ?_
         refine Jl [0,1,2,3,5,4] [(Ak w),(Bj z c),(Bv z),(BD y24 n15),(bk n66 #[i6 0,i6 0,i6 0] 111),(RX y24 k n n43)] rfl rfl ?_
         refine CZ [1,2,4,5,24,25,26,7,8,65] [(1,Ac k),(2,pt z),(AU z),(Bg k n c),(Bh b17 o18 y8),(Bc y8),(26,Ac n),(Bi n15),(8,pt n66),(NJ y24 k n)] ?_
         exact hv55 ⟨(n66+1,n66,n43),by first | omega | (dsimp only;omega)⟩
        refine Bq o0 [1,2,4,5,24,25,26,7,64,8] [] [(1,Ac k),(2,pt z),(AU z),(Bg k n c),(Bh b17 o18 y8),(Bc y8),(26,Ac n),(Bi n15),(64,.slice (some ⟨n43,0,none⟩) 3 3),(8,pt (n43+1))] ⟨w,n43+2,[(Ak w),(Bj z c),(Bv z),(BD y24 n15),(RX y24 k n n43),(bk (n43+1) #[i6 0,i6 0,i6 0] 111)]⟩ [0,1,2,3] Ag (.inr rfl) ?_
        refine Jl [0,1,2,3,5,4] [(Ak w),(Bj z c),(Bv z),(BD y24 n15),(bk (n43+1) #[i6 0,i6 0,i6 0] 111),(RX y24 k n n43)] rfl rfl ?_
        refine CZ [1,2,4,5,24,25,26,7,8,64] [(1,Ac k),(2,pt z),(AU z),(Bg k n c),(Bh b17 o18 y8),(Bc y8),(26,Ac n),(Bi n15),(8,pt (n43+1)),(64,.slice (some ⟨n43,0,none⟩) 3 3)] ?_
        exact hv60 ⟨(n43+2,n43+1,n43),by first | omega | (dsimp only;omega)⟩
       refine Bq o0 [1,2,4,5,24,25,26,7,46,53,63,8] [] [(1,Ac k),(2,pt z),(AU z),(Bg k n c),(Bh b17 o18 y8),(Bc y8),(26,Ac n),(Bi n15),(NU y24 k n),(I7 y24 k n),(Lj k n),(8,pt n43)] ⟨w,n43+1,[(Ak w),(Bj z c),(Bv z),(BD y24 n15),(bk n43 #[i6 0,i6 0,i6 0] 111)]⟩ [0,1,2,3] Ag (.inr rfl) ?_
       refine CZ [8,1,2,4,5,24,25,26,7,46,53,63] [(8,pt n43),(1,Ac k),(2,pt z),(AU z),(Bg k n c),(Bh b17 o18 y8),(Bc y8),(26,Ac n),(Bi n15),(NU y24 k n),(I7 y24 k n),(Lj k n)] ?_
       exact hv45 ⟨(n43+1,n43),by first | omega | (dsimp only;omega)⟩
      rintro⟨⟨n30,b31,b32⟩,hJ68⟩
      simp only at hJ68
      show E _ _ [(1,Ac k),(2,pt z),(AU z),(Bg k n c),(Bh b17 o18 y8),(Bc y8),(26,Ac n),(Bi n15),(8,pt b32)] _ ⟨w,n30,[(Ak w),(Bj z c),(Bv z),(BD y24 n15),(bk b31 #[i6 ((Ae (win y24.BA 1 16384) 419 ⟨(k:Int),(n:Int)⟩).e),i6 ((Ae (win y24.BA 1 16384) 419 ⟨(k:Int),(n:Int)⟩).Af.First),i6 ((Ae (win y24.BA 1 16384) 419 ⟨(k:Int),(n:Int)⟩).Af.Second),i6 ((Ae (win y24.A8 82 16384) 420 ⟨(k:Int),(n:Int)⟩).e),i6 ((Ae (win y24.A8 82 16384) 420 ⟨(k:Int),(n:Int)⟩).Af.First),i6 ((Ae (win y24.A8 82 16384) 420 ⟨(k:Int),(n:Int)⟩).Af.Second),i6 ((Ae false 422 ⟨(k:Int),(n:Int)⟩).e),i6 ((Ae false 422 ⟨(k:Int),(n:Int)⟩).Af.First),i6 ((Ae false 422 ⟨(k:Int),(n:Int)⟩).Af.Second)] 111),(VJ y24 k n b32)]⟩ _ _ _
      refine Cc [0,1,2,3,5] [(Ak w),(Bj z c),(Bv z),(BD y24 n15),(VJ y24 k n b32)] rfl rfl ?_
      have e0:gd (DX c k).xs n=y24:=(by rw[hy24,hy8])
      have eA:EY c k n=(AV [(Ae (win y24.BA 1 16384) 419 ⟨(k:Int),(n:Int)⟩),(Ae (win y24.A8 82 16384) 420 ⟨(k:Int),(n:Int)⟩),(Ae false 422 ⟨(k:Int),(n:Int)⟩)]):=(by unfold EY Pz;simp only[e0];simp[h27,h29])
      refine BR [1,2,4,5,7,8,24,25,26] [(1,Ac k),(2,pt z),(AU z),(Bg k n c),(Bi n15),(8,pt b32),(Bh b17 o18 y8),(Bc y8),(26,Ac n)] ?_
      refine Cj (fun a w' hs=>⟨n30,b32,by omega,(by(try dsimp only[VJ,Bv,BD,Bj,NU,I7,Lj,Nu,Bh,Bc,AU,Jt,Bg,Bi]at hs ⊢);rw[eA];exact hs)⟩)
     refine DN 36 [0,1,2,3] [(Ak w),(Bj z c),(Bv z),(BD y24 n15)] rfl rfl ?_
     refine Dc [(0,o0),(1,(a1 3)),(2,o0),(3,(a1 1)),(4,o0),(5,(ov (i6 ((c.Aa.xs.length:Int) - 1)))),(12,o0),(13,o0),(16,o0),(17,(a1 3)),(19,o0),(20,o0),(23,(an 7 1)),(24,o0),(25,o0),(26,(a1 3)),(29,o0),(30,o0)] [1,2,4,5,24,25,26,7,32,36,43,44,48,50,51,54,55,57,60,61] [Qb n15,Qb z,Wr ((c.Aa.xs.length:Int) - 1) ((c.Aa.xs.length:Int) - 1),Qb n15,Qb z,Qb z,Qb z,Qb z,Qb z,Qb z,Qb z,Qb n15] [true,true,true,true,true,true,false,false,false,false,false,false,true,true,false,false,true,true,false,true,true,false,false,true,true,true,true,false,false,true,true,false,false,false,false,false,false] [(1,Ac k),(2,pt z),(AU z),(Bg k n c),(Bh b17 o18 y8),(Bc y8),(26,Ac n),(Bi n15),(32,i6 y24.Partition),(Nu c),(43,Ac k),(44,Ac n),(48,i6 y24.A8),(50,Ac k),(51,Ac n),(54,.agg (Aj.arr c)),(55,Ac k),(57,i6 y24.Partition),(60,Ac k),(61,Ac n)] ⟨rfl,rfl,CU,rfl,rfl,rfl,rfl,rfl,rfl,rfl,rfl,rfl,Ag⟩ ?_
     refine Ox (fun x:{p:Nat×Nat×Nat // n15+1≤p.1∧n15+1≤p.2.1∧n15+1≤p.2.2}=>([(1,Ac k),(2,pt z),(AU z),(Bg k n c),(Bh b17 o18 y8),(Bc y8),(26,Ac n),(Bi n15),(8,pt x.1.2.2)],⟨w,x.1.1,[(Ak w),(Bj z c),(Bv z),(BD y24 n15),(.blk x.1.2.1 (.cells #[i6 ((Ae (win y24.BA 1 16384) 419 ⟨(k:Int),(n:Int)⟩).e),i6 ((Ae (win y24.BA 1 16384) 419 ⟨(k:Int),(n:Int)⟩).Af.First),i6 ((Ae (win y24.BA 1 16384) 419 ⟨(k:Int),(n:Int)⟩).Af.Second),i6 ((Ae (win y24.A8 82 16384) 420 ⟨(k:Int),(n:Int)⟩).e),i6 ((Ae (win y24.A8 82 16384) 420 ⟨(k:Int),(n:Int)⟩).Af.First),i6 ((Ae (win y24.A8 82 16384) 420 ⟨(k:Int),(n:Int)⟩).Af.Second),i6 ((Ae true 422 ⟨(k:Int),(n:Int)⟩).e),i6 ((Ae true 422 ⟨(k:Int),(n:Int)⟩).Af.First),i6 ((Ae true 422 ⟨(k:Int),(n:Int)⟩).Af.Second)] 111 (0,0)) true),(.blk x.1.2.2 (.cells (Ai.arr (AV [(Ae (win y24.BA 1 16384) 419 ⟨(k:Int),(n:Int)⟩),(Ae (win y24.A8 82 16384) 420 ⟨(k:Int),(n:Int)⟩),(Ae true 422 ⟨(k:Int),(n:Int)⟩)])) 111 (0,0)) true)]⟩)) (fun hK => ?_) ?_
     ·refine Me 35 8 [.cl 6 (.bool (win y24.Partition (-1) ((c.Aa.xs.length:Int) - 1))),.tk 7 (ov (.bool true)),.tk 8 o0,.tk 9 (a1 3),.cl 10 (.bool (win y24.BA 1 16384)),.tk 11 o0,.cl 14 (.agg #[(Ac k),Ac n]),.cl 15 (.agg (Ai.arr (Ae (win y24.BA 1 16384) 419 ⟨(k:Int),(n:Int)⟩))),.cl 18 (.bool (win y24.A8 82 16384)),.cl 21 (.agg #[(Ac k),Ac n]),.cl 22 (.agg (Ai.arr (Ae (win y24.A8 82 16384) 420 ⟨(k:Int),(n:Int)⟩))),.cl 27 (.bool (Ii c k y24.Partition)),.tk 28 (ov (.bool true)),.cl 31 (.agg #[(Ac k),Ac n]),.cl 32 (.agg (Ai.arr (Ae true 422 ⟨(k:Int),(n:Int)⟩)))] [1,2,4,5,24,25,26,7,46,53,63] [(63,#[i6 y24.Partition,i6 (-1),i6 ((c.Aa.xs.length:Int) - 1)],.bool (win y24.Partition (-1) ((c.Aa.xs.length:Int) - 1))),(63,#[i6 y24.BA,i6 1,i6 16384],.bool (win y24.BA 1 16384)),(96,#[(Ac k),Ac n],.agg #[(Ac k),Ac n]),(62,#[.bool (win y24.BA 1 16384),i6 419,.agg #[(Ac k),Ac n]],.agg (Ai.arr (Ae (win y24.BA 1 16384) 419 ⟨(k:Int),(n:Int)⟩))),(63,#[i6 y24.A8,i6 82,i6 16384],.bool (win y24.A8 82 16384)),(96,#[(Ac k),Ac n],.agg #[(Ac k),Ac n]),(62,#[.bool (win y24.A8 82 16384),i6 420,.agg #[(Ac k),Ac n]],.agg (Ai.arr (Ae (win y24.A8 82 16384) 420 ⟨(k:Int),(n:Int)⟩))),(98,#[.agg (Aj.arr c),Ac k,i6 y24.Partition],.bool (Ii c k y24.Partition)),(96,#[(Ac k),Ac n],.agg #[(Ac k),Ac n]),(62,#[.bool true,i6 422,.agg #[(Ac k),Ac n]],.agg (Ai.arr (Ae true 422 ⟨(k:Int),(n:Int)⟩)))] (Dj 33 4) [Value.bool (win y24.Partition (-1) ((c.Aa.xs.length:Int) - 1))=Value.bool true,Qb n15,Value.bool (!(Ii c k y24.Partition))=Value.bool true] [(1,Ac k),(2,pt z),(AU z),(Bg k n c),(Bh b17 o18 y8),(Bc y8),(26,Ac n),(Bi n15),(NU y24 k n),(I7 y24 k n),(NM k n)] (.cells #[i6 0,i6 0,i6 0] 111 (0,0)) [0,1,2,3] ⟨(congrArg Value.bool h27),rfl,by simp[h29],Ag⟩ ⟨fun w72 hw72=>Bl w72 y24.Partition (-1) ((c.Aa.xs.length:Int) - 1),fun w73 hw73=>Bl w73 y24.BA 1 16384,fun w74 hw74=>EH w74 (k:Int) (n:Int),fun w75 hw75=>AQ w75 (hL.ext (hw75.ext rfl)) (win y24.BA 1 16384) 419 (k:Int) (n:Int),fun w76 hw76=>Bl w76 y24.A8 82 16384,fun w77 hw77=>EH w77 (k:Int) (n:Int),fun w78 hw78=>AQ w78 (hL.ext (hw78.ext rfl)) (win y24.A8 82 16384) 420 (k:Int) (n:Int),fun w79 hw79=>OV w79 c (hc.ext (hw79.ext rfl) (fun _ h=>h)) k hk y24.Partition,fun w80 hw80=>EH w80 (k:Int) (n:Int),fun w81 hw81=>AQ w81 (hL.ext (hw81.ext rfl)) true 422 (k:Int) (n:Int),Ag⟩ ?_ (fun hv84 n82 hn83 => ?_)
      ·rintro⟨⟨n85,b86⟩,hb87⟩
       simp only at hb87
       refine Bo 33 ?_
       refine Bq o0 [8,1,2,4,5,24,25,26,7,64] [] [(8,pt b86),(1,Ac k),(2,pt z),(AU z),(Bg k n c),(Bh b17 o18 y8),(Bc y8),(26,Ac n),(Bi n15),(64,.slice (some ⟨n85,0,none⟩) 3 3)] ⟨w,n85+1,[(Ak w),(Bj z c),(Bv z),(BD y24 n15),(bk b86 #[i6 0,i6 0,i6 0] 111),(UB y24 k n n85)]⟩ [0,1,2,3] Ag (.inr rfl) ?_
       refine Bo 34 ?_
       refine EX 91 #[.slice (some ⟨n85,0,none⟩) 3 3] (some 65) (.agg (Ai.arr (AV [(Ae (win y24.BA 1 16384) 419 ⟨(k:Int),(n:Int)⟩),(Ae (win y24.A8 82 16384) 420 ⟨(k:Int),(n:Int)⟩),(Ae true 422 ⟨(k:Int),(n:Int)⟩)]))) [8,1,2,4,5,24,25,26,7,65] [(8,pt b86),(1,Ac k),(2,pt z),(AU z),(Bg k n c),(Bh b17 o18 y8),(Bc y8),(26,Ac n),(Bi n15),(Ny y24 k n)] [0,1,2,3] (fun w88 hw88=>CE w88 (hL.ext (hw88.ext rfl)) ⟨some ⟨n85,0,none⟩,3,[(Ae (win y24.BA 1 16384) 419 ⟨(k:Int),(n:Int)⟩),(Ae (win y24.A8 82 16384) 420 ⟨(k:Int),(n:Int)⟩),(Ae true 422 ⟨(k:Int),(n:Int)⟩)]⟩ (Dy hw88 (i:=5) [(Ae (win y24.BA 1 16384) 419 ⟨(k:Int),(n:Int)⟩),(Ae (win y24.A8 82 16384) 420 ⟨(k:Int),(n:Int)⟩),(Ae true 422 ⟨(k:Int),(n:Int)⟩)]) (show 3≤1000 by decide)) (fun n89 hn90 => ?_)
       replace hn90:n85+1≤n89:=hn90
       refine Bo 36 ?_
       refine Bq (an 3 4) [8,1,2,4,5,24,25,26,7] [Qb b86,Qb b86,Qb b86] [(8,pt b86),(1,Ac k),(2,pt z),(AU z),(Bg k n c),(Bh b17 o18 y8),(Bc y8),(26,Ac n),(Bi n15)] ⟨w,n89,[(Ak w),(Bj z c),(Bv z),(BD y24 n15),(VA y24 k n b86),(UB y24 k n n85)]⟩ [] ⟨rfl,rfl,rfl,Ag⟩ (.inl rfl) ?_
       refine D8 37 [0,1,2,3,4,5] [(Ak w),(Bj z c),(Bv z),(BD y24 n15),(VA y24 k n b86),(UB y24 k n n85)] rfl rfl ?_
       refine CV ?_
       refine BR [1,2,4,5,24,25,26,7,8] [(1,Ac k),(2,pt z),(AU z),(Bg k n c),(Bh b17 o18 y8),(Bc y8),(26,Ac n),(Bi n15),(8,pt b86)] ?_
       refine Cc [0,1,2,3,5,4] [(Ak w),(Bj z c),(Bv z),(BD y24 n15),(UB y24 k n n85),(VA y24 k n b86)] rfl rfl ?_
       exact hK ⟨(n89,n85,b86),by first | omega | (dsimp only;omega)⟩
      replace hn83:n15+1≤n82:=hn83
      refine Kq (fun x:{p:Nat×Nat×Nat // n82≤p.1∧n82≤p.2.1∧n82≤p.2.2}=>[(1,Ac k),(2,pt z),(AU z),(Bg k n c),(Bh b17 o18 y8),(Bc y8),(26,Ac n),(Bi n15),(8,pt x.1.2.1),(Ny y24 k n)]) (fun x=>⟨w,x.1.1,[(Ak w),(Bj z c),(Bv z),(BD y24 n15),(.blk x.1.2.1 (.cells #[i6 0,i6 0,i6 0] 111 (0,0)) true),(.blk x.1.2.2 (.cells #[i6 ((Ae (win y24.BA 1 16384) 419 ⟨(k:Int),(n:Int)⟩).e),i6 ((Ae (win y24.BA 1 16384) 419 ⟨(k:Int),(n:Int)⟩).Af.First),i6 ((Ae (win y24.BA 1 16384) 419 ⟨(k:Int),(n:Int)⟩).Af.Second),i6 ((Ae (win y24.A8 82 16384) 420 ⟨(k:Int),(n:Int)⟩).e),i6 ((Ae (win y24.A8 82 16384) 420 ⟨(k:Int),(n:Int)⟩).Af.First),i6 ((Ae (win y24.A8 82 16384) 420 ⟨(k:Int),(n:Int)⟩).Af.Second),i6 ((Ae true 422 ⟨(k:Int),(n:Int)⟩).e),i6 ((Ae true 422 ⟨(k:Int),(n:Int)⟩).Af.First),i6 ((Ae true 422 ⟨(k:Int),(n:Int)⟩).Af.Second)] 111 (0,0)) true)]⟩) 1 (Dj 36 1) ?_ (fun hv94 => ?_)
      ·rintro⟨⟨n91,b92,b93⟩,hb95⟩
       simp only at hb95
       show Wg _ _ [(1,Ac k),(2,pt z),(AU z),(Bg k n c),(Bh b17 o18 y8),(Bc y8),(26,Ac n),(Bi n15),(8,pt b92),(Ny y24 k n)] _ ⟨w,n91,[(Ak w),(Bj z c),(Bv z),(BD y24 n15),(bk b92 #[i6 0,i6 0,i6 0] 111),(U3 y24 k n b93)]⟩ _ _ _ _ _ _ _
       refine Bo 36 ?_
       refine Bq (an 3 4) [1,2,4,5,24,25,26,7,8] [Qb b92,Qb b92,Qb b92] [(1,Ac k),(2,pt z),(AU z),(Bg k n c),(Bh b17 o18 y8),(Bc y8),(26,Ac n),(Bi n15),(8,pt b92)] ⟨w,n91,[(Ak w),(Bj z c),(Bv z),(BD y24 n15),(VN y24 k n b92),(U3 y24 k n b93)]⟩ [] ⟨rfl,rfl,rfl,Ag⟩ (.inl rfl) ?_
       refine D8 37 [0,1,2,3,4,5] [(Ak w),(Bj z c),(Bv z),(BD y24 n15),(VN y24 k n b92),(U3 y24 k n b93)] rfl rfl ?_
       refine CV ?_
       refine BR [1,2,4,5,24,25,26,7,8] [(1,Ac k),(2,pt z),(AU z),(Bg k n c),(Bh b17 o18 y8),(Bc y8),(26,Ac n),(Bi n15),(8,pt b92)] ?_
       refine Cc [0,1,2,3,5,4] [(Ak w),(Bj z c),(Bv z),(BD y24 n15),(U3 y24 k n b93),(VN y24 k n b92)] rfl rfl ?_
       exact hK ⟨(n91,b93,b92),by first | omega | (dsimp only;omega)⟩
      refine Kq (fun x:{p:Nat×Nat×Nat // n82≤p.1∧n82≤p.2.1∧n82≤p.2.2}=>[(1,Ac k),(2,pt z),(AU z),(Bg k n c),(Bh b17 o18 y8),(Bc y8),(26,Ac n),(Bi n15),(8,pt x.1.2.1),(64,.slice (some ⟨x.1.2.2,0,none⟩) 3 3)]) (fun x=>⟨w,x.1.1,[(Ak w),(Bj z c),(Bv z),(BD y24 n15),(.blk x.1.2.1 (.cells #[i6 0,i6 0,i6 0] 111 (0,0)) true),(.blk x.1.2.2 (.cells #[i6 ((Ae (win y24.BA 1 16384) 419 ⟨(k:Int),(n:Int)⟩).e),i6 ((Ae (win y24.BA 1 16384) 419 ⟨(k:Int),(n:Int)⟩).Af.First),i6 ((Ae (win y24.BA 1 16384) 419 ⟨(k:Int),(n:Int)⟩).Af.Second),i6 ((Ae (win y24.A8 82 16384) 420 ⟨(k:Int),(n:Int)⟩).e),i6 ((Ae (win y24.A8 82 16384) 420 ⟨(k:Int),(n:Int)⟩).Af.First),i6 ((Ae (win y24.A8 82 16384) 420 ⟨(k:Int),(n:Int)⟩).Af.Second),i6 ((Ae true 422 ⟨(k:Int),(n:Int)⟩).e),i6 ((Ae true 422 ⟨(k:Int),(n:Int)⟩).Af.First),i6 ((Ae true 422 ⟨(k:Int),(n:Int)⟩).Af.Second)] 111 (0,0)) true)]⟩) 2 [true,true,true,true,true,true,true,true,true,true,true,true,true,true,true,true,true,true,true,true,true,true,true,true,true,true,true,true,true,true,true,true,true,true,false,true,false] ?_ (fun hv99 => ?_)
      ·rintro⟨⟨n96,b97,b98⟩,hb100⟩
       simp only at hb100
       show Wg _ _ [(1,Ac k),(2,pt z),(AU z),(Bg k n c),(Bh b17 o18 y8),(Bc y8),(26,Ac n),(Bi n15),(8,pt b97),(64,.slice (some ⟨b98,0,none⟩) 3 3)] _ ⟨w,n96,[(Ak w),(Bj z c),(Bv z),(BD y24 n15),(bk b97 #[i6 0,i6 0,i6 0] 111),(bk b98 #[i6 ((Ae (win y24.BA 1 16384) 419 ⟨(k:Int),(n:Int)⟩).e),i6 ((Ae (win y24.BA 1 16384) 419 ⟨(k:Int),(n:Int)⟩).Af.First),i6 ((Ae (win y24.BA 1 16384) 419 ⟨(k:Int),(n:Int)⟩).Af.Second),i6 ((Ae (win y24.A8 82 16384) 420 ⟨(k:Int),(n:Int)⟩).e),i6 ((Ae (win y24.A8 82 16384) 420 ⟨(k:Int),(n:Int)⟩).Af.First),i6 ((Ae (win y24.A8 82 16384) 420 ⟨(k:Int),(n:Int)⟩).Af.Second),i6 ((Ae true 422 ⟨(k:Int),(n:Int)⟩).e),i6 ((Ae true 422 ⟨(k:Int),(n:Int)⟩).Af.First),i6 ((Ae true 422 ⟨(k:Int),(n:Int)⟩).Af.Second)] 111)]⟩ _ _ _ _ _ _ _
       refine Bo 34 ?_
       refine EX 91 #[.slice (some ⟨b98,0,none⟩) 3 3] (some 65) (.agg (Ai.arr (AV [(Ae (win y24.BA 1 16384) 419 ⟨(k:Int),(n:Int)⟩),(Ae (win y24.A8 82 16384) 420 ⟨(k:Int),(n:Int)⟩),(Ae true 422 ⟨(k:Int),(n:Int)⟩)]))) [1,2,4,5,24,25,26,7,8,65] [(1,Ac k),(2,pt z),(AU z),(Bg k n c),(Bh b17 o18 y8),(Bc y8),(26,Ac n),(Bi n15),(8,pt b97),(Ny y24 k n)] [0,1,2,3] (fun w101 hw101=>CE w101 (hL.ext (hw101.ext rfl)) ⟨some ⟨b98,0,none⟩,3,[(Ae (win y24.BA 1 16384) 419 ⟨(k:Int),(n:Int)⟩),(Ae (win y24.A8 82 16384) 420 ⟨(k:Int),(n:Int)⟩),(Ae true 422 ⟨(k:Int),(n:Int)⟩)]⟩ (Dy hw101 (i:=5) [(Ae (win y24.BA 1 16384) 419 ⟨(k:Int),(n:Int)⟩),(Ae (win y24.A8 82 16384) 420 ⟨(k:Int),(n:Int)⟩),(Ae true 422 ⟨(k:Int),(n:Int)⟩)]) (show 3≤1000 by decide)) (fun n102 hn103 => ?_)
       replace hn103:n96≤n102:=hn103
       refine CZ [1,2,4,5,24,25,26,7,8,65] [(1,Ac k),(2,pt z),(AU z),(Bg k n c),(Bh b17 o18 y8),(Bc y8),(26,Ac n),(Bi n15),(8,pt b97),(Ny y24 k n)] ?_
       exact hv94 ⟨(n102,b97,b98),by first | omega | (dsimp only;omega)⟩
      refine Ij [33,35] ?_
      refine List.forall_mem_cons.2 ⟨?_,List.forall_mem_cons.2 ⟨?_,fun _ h=>absurd h List.not_mem_nil⟩⟩
      ·refine Bq o0 [1,2,4,5,24,25,26,7,64] [] [(1,Ac k),(2,pt z),(AU z),(Bg k n c),(Bh b17 o18 y8),(Bc y8),(26,Ac n),(Bi n15),(64,.slice (some ⟨n82,0,none⟩) 3 3)] ⟨w,n82+1,[(Ak w),(Bj z c),(Bv z),(BD y24 n15),(SE y24 k n n82)]⟩ [0,1,2,3] Ag (.inr rfl) ?_
       refine Ij [34,35] ?_
       refine List.forall_mem_cons.2 ⟨?_,List.forall_mem_cons.2 ⟨?_,fun _ h=>absurd h List.not_mem_nil⟩⟩
       ·refine EX 91 #[.slice (some ⟨n82,0,none⟩) 3 3] (some 65) (.agg (Ai.arr (AV [(Ae (win y24.BA 1 16384) 419 ⟨(k:Int),(n:Int)⟩),(Ae (win y24.A8 82 16384) 420 ⟨(k:Int),(n:Int)⟩),(Ae true 422 ⟨(k:Int),(n:Int)⟩)]))) [1,2,4,5,24,25,26,7,65] [(1,Ac k),(2,pt z),(AU z),(Bg k n c),(Bh b17 o18 y8),(Bc y8),(26,Ac n),(Bi n15),(Ny y24 k n)] [0,1,2,3] (fun w104 hw104=>CE w104 (hL.ext (hw104.ext rfl)) ⟨some ⟨n82,0,none⟩,3,[(Ae (win y24.BA 1 16384) 419 ⟨(k:Int),(n:Int)⟩),(Ae (win y24.A8 82 16384) 420 ⟨(k:Int),(n:Int)⟩),(Ae true 422 ⟨(k:Int),(n:Int)⟩)]⟩ (Dy hw104 (i:=4) [(Ae (win y24.BA 1 16384) 419 ⟨(k:Int),(n:Int)⟩),(Ae (win y24.A8 82 16384) 420 ⟨(k:Int),(n:Int)⟩),(Ae true 422 ⟨(k:Int),(n:Int)⟩)]) (show 3≤1000 by decide)) (fun n105 hn106 => ?_)
        replace hn106:n82+1≤n105:=hn106
        refine Bo 35 ?_
        refine Bq o0 [1,2,4,5,24,25,26,7,65,8] [] [(1,Ac k),(2,pt z),(AU z),(Bg k n c),(Bh b17 o18 y8),(Bc y8),(26,Ac n),(Bi n15),(Ny y24 k n),(8,pt n105)] ⟨w,n105+1,[(Ak w),(Bj z c),(Bv z),(BD y24 n15),(SE y24 k n n82),(bk n105 #[i6 0,i6 0,i6 0] 111)]⟩ [0,1,2,3] Ag (.inr rfl) ?_
        refine Jl [0,1,2,3,5,4] [(Ak w),(Bj z c),(Bv z),(BD y24 n15),(bk n105 #[i6 0,i6 0,i6 0] 111),(SE y24 k n n82)] rfl rfl ?_
        refine CZ [1,2,4,5,24,25,26,7,8,65] [(1,Ac k),(2,pt z),(AU z),(Bg k n c),(Bh b17 o18 y8),(Bc y8),(26,Ac n),(Bi n15),(8,pt n105),(Ny y24 k n)] ?_
        exact hv94 ⟨(n105+1,n105,n82),by first | omega | (dsimp only;omega)⟩
       refine Bq o0 [1,2,4,5,24,25,26,7,64,8] [] [(1,Ac k),(2,pt z),(AU z),(Bg k n c),(Bh b17 o18 y8),(Bc y8),(26,Ac n),(Bi n15),(64,.slice (some ⟨n82,0,none⟩) 3 3),(8,pt (n82+1))] ⟨w,n82+2,[(Ak w),(Bj z c),(Bv z),(BD y24 n15),(SE y24 k n n82),(bk (n82+1) #[i6 0,i6 0,i6 0] 111)]⟩ [0,1,2,3] Ag (.inr rfl) ?_
       refine Jl [0,1,2,3,5,4] [(Ak w),(Bj z c),(Bv z),(BD y24 n15),(bk (n82+1) #[i6 0,i6 0,i6 0] 111),(SE y24 k n n82)] rfl rfl ?_
       refine CZ [1,2,4,5,24,25,26,7,8,64] [(1,Ac k),(2,pt z),(AU z),(Bg k n c),(Bh b17 o18 y8),(Bc y8),(26,Ac n),(Bi n15),(8,pt (n82+1)),(64,.slice (some ⟨n82,0,none⟩) 3 3)] ?_
       exact hv99 ⟨(n82+2,n82+1,n82),by first | omega | (dsimp only;omega)⟩
      refine Bq o0 [1,2,4,5,24,25,26,7,46,53,63,8] [] [(1,Ac k),(2,pt z),(AU z),(Bg k n c),(Bh b17 o18 y8),(Bc y8),(26,Ac n),(Bi n15),(NU y24 k n),(I7 y24 k n),(NM k n),(8,pt n82)] ⟨w,n82+1,[(Ak w),(Bj z c),(Bv z),(BD y24 n15),(bk n82 #[i6 0,i6 0,i6 0] 111)]⟩ [0,1,2,3] Ag (.inr rfl) ?_
      refine CZ [8,1,2,4,5,24,25,26,7,46,53,63] [(8,pt n82),(1,Ac k),(2,pt z),(AU z),(Bg k n c),(Bh b17 o18 y8),(Bc y8),(26,Ac n),(Bi n15),(NU y24 k n),(I7 y24 k n),(NM k n)] ?_
      exact hv84 ⟨(n82+1,n82),by first | omega | (dsimp only;omega)⟩
     rintro⟨⟨n69,b70,b71⟩,hJ107⟩
     simp only at hJ107
     show E _ _ [(1,Ac k),(2,pt z),(AU z),(Bg k n c),(Bh b17 o18 y8),(Bc y8),(26,Ac n),(Bi n15),(8,pt b71)] _ ⟨w,n69,[(Ak w),(Bj z c),(Bv z),(BD y24 n15),(bk b70 #[i6 ((Ae (win y24.BA 1 16384) 419 ⟨(k:Int),(n:Int)⟩).e),i6 ((Ae (win y24.BA 1 16384) 419 ⟨(k:Int),(n:Int)⟩).Af.First),i6 ((Ae (win y24.BA 1 16384) 419 ⟨(k:Int),(n:Int)⟩).Af.Second),i6 ((Ae (win y24.A8 82 16384) 420 ⟨(k:Int),(n:Int)⟩).e),i6 ((Ae (win y24.A8 82 16384) 420 ⟨(k:Int),(n:Int)⟩).Af.First),i6 ((Ae (win y24.A8 82 16384) 420 ⟨(k:Int),(n:Int)⟩).Af.Second),i6 ((Ae true 422 ⟨(k:Int),(n:Int)⟩).e),i6 ((Ae true 422 ⟨(k:Int),(n:Int)⟩).Af.First),i6 ((Ae true 422 ⟨(k:Int),(n:Int)⟩).Af.Second)] 111),(Vl y24 k n b71)]⟩ _ _ _
     refine Cc [0,1,2,3,5] [(Ak w),(Bj z c),(Bv z),(BD y24 n15),(Vl y24 k n b71)] rfl rfl ?_
     have e0:gd (DX c k).xs n=y24:=(by rw[hy24,hy8])
     have eA:EY c k n=(AV [(Ae (win y24.BA 1 16384) 419 ⟨(k:Int),(n:Int)⟩),(Ae (win y24.A8 82 16384) 420 ⟨(k:Int),(n:Int)⟩),(Ae true 422 ⟨(k:Int),(n:Int)⟩)]):=(by unfold EY Pz;simp only[e0];simp[h27,h29])
     refine BR [1,2,4,5,7,8,24,25,26] [(1,Ac k),(2,pt z),(AU z),(Bg k n c),(Bi n15),(8,pt b71),(Bh b17 o18 y8),(Bc y8),(26,Ac n)] ?_
     refine Cj (fun a w' hs=>⟨n69,b71,by omega,(by(try dsimp only[Vl,Bv,BD,Bj,NU,I7,Lj,NM,Nu,Bh,Bc,AU,Jt,Bg,Bi]at hs ⊢);rw[eA];exact hs)⟩)
    have hd108:=Jn h27
    by_cases h109:(Ii c k y24.Partition)=true
    ·refine DN 36 [0,1,2,3] [(Ak w),(Bj z c),(Bv z),(BD y24 n15)] rfl rfl ?_
     refine Dc [(0,o0),(1,(a1 3)),(2,o0),(3,(a1 1)),(4,o0),(5,(ov (i6 ((c.Aa.xs.length:Int) - 1)))),(12,o0),(13,o0),(16,o0),(17,(a1 3)),(19,o0),(20,o0),(23,(an 7 1)),(24,o0),(25,o0),(26,(a1 3)),(29,o0),(30,o0)] [1,2,4,5,24,25,26,7,32,36,43,44,48,50,51,54,55,57,60,61] [Qb n15,Qb z,Wr ((c.Aa.xs.length:Int) - 1) ((c.Aa.xs.length:Int) - 1),Qb n15,Qb z,Qb z,Qb z,Qb z,Qb z,Qb z,Qb z,Qb n15] [true,true,true,true,true,true,false,false,false,false,false,false,true,true,false,false,true,true,false,true,true,false,false,true,true,true,true,false,false,true,true,false,false,false,false,false,false] [(1,Ac k),(2,pt z),(AU z),(Bg k n c),(Bh b17 o18 y8),(Bc y8),(26,Ac n),(Bi n15),(32,i6 y24.Partition),(Nu c),(43,Ac k),(44,Ac n),(48,i6 y24.A8),(50,Ac k),(51,Ac n),(54,.agg (Aj.arr c)),(55,Ac k),(57,i6 y24.Partition),(60,Ac k),(61,Ac n)] ⟨rfl,rfl,CU,rfl,rfl,rfl,rfl,rfl,rfl,rfl,rfl,rfl,Ag⟩ ?_
     refine Ox (fun x:{p:Nat×Nat×Nat // n15+1≤p.1∧n15+1≤p.2.1∧n15+1≤p.2.2}=>([(1,Ac k),(2,pt z),(AU z),(Bg k n c),(Bh b17 o18 y8),(Bc y8),(26,Ac n),(Bi n15),(8,pt x.1.2.2)],⟨w,x.1.1,[(Ak w),(Bj z c),(Bv z),(BD y24 n15),(.blk x.1.2.1 (.cells #[i6 ((Ae false 419 ⟨(k:Int),(n:Int)⟩).e),i6 ((Ae false 419 ⟨(k:Int),(n:Int)⟩).Af.First),i6 ((Ae false 419 ⟨(k:Int),(n:Int)⟩).Af.Second),i6 ((Ae (win y24.A8 82 16384) 420 ⟨(k:Int),(n:Int)⟩).e),i6 ((Ae (win y24.A8 82 16384) 420 ⟨(k:Int),(n:Int)⟩).Af.First),i6 ((Ae (win y24.A8 82 16384) 420 ⟨(k:Int),(n:Int)⟩).Af.Second),i6 ((Ae false 422 ⟨(k:Int),(n:Int)⟩).e),i6 ((Ae false 422 ⟨(k:Int),(n:Int)⟩).Af.First),i6 ((Ae false 422 ⟨(k:Int),(n:Int)⟩).Af.Second)] 111 (0,0)) true),(.blk x.1.2.2 (.cells (Ai.arr (AV [(Ae false 419 ⟨(k:Int),(n:Int)⟩),(Ae (win y24.A8 82 16384) 420 ⟨(k:Int),(n:Int)⟩),(Ae false 422 ⟨(k:Int),(n:Int)⟩)])) 111 (0,0)) true)]⟩)) (fun hK => ?_) ?_
     ·refine Me 35 8 [.cl 6 (.bool (win y24.Partition (-1) ((c.Aa.xs.length:Int) - 1))),.tk 7 (ov (.bool false)),.tk 8 o0,.tk 9 o0,.tk 10 o0,.tk 11 o0,.cl 14 (.agg #[(Ac k),Ac n]),.cl 15 (.agg (Ai.arr (Ae false 419 ⟨(k:Int),(n:Int)⟩))),.cl 18 (.bool (win y24.A8 82 16384)),.cl 21 (.agg #[(Ac k),Ac n]),.cl 22 (.agg (Ai.arr (Ae (win y24.A8 82 16384) 420 ⟨(k:Int),(n:Int)⟩))),.cl 27 (.bool (Ii c k y24.Partition)),.tk 28 (ov (.bool false)),.cl 31 (.agg #[(Ac k),Ac n]),.cl 32 (.agg (Ai.arr (Ae false 422 ⟨(k:Int),(n:Int)⟩)))] [1,2,4,5,24,25,26,7,46,53,63] [(63,#[i6 y24.Partition,i6 (-1),i6 ((c.Aa.xs.length:Int) - 1)],.bool (win y24.Partition (-1) ((c.Aa.xs.length:Int) - 1))),(96,#[(Ac k),Ac n],.agg #[(Ac k),Ac n]),(62,#[.bool false,i6 419,.agg #[(Ac k),Ac n]],.agg (Ai.arr (Ae false 419 ⟨(k:Int),(n:Int)⟩))),(63,#[i6 y24.A8,i6 82,i6 16384],.bool (win y24.A8 82 16384)),(96,#[(Ac k),Ac n],.agg #[(Ac k),Ac n]),(62,#[.bool (win y24.A8 82 16384),i6 420,.agg #[(Ac k),Ac n]],.agg (Ai.arr (Ae (win y24.A8 82 16384) 420 ⟨(k:Int),(n:Int)⟩))),(98,#[.agg (Aj.arr c),Ac k,i6 y24.Partition],.bool (Ii c k y24.Partition)),(96,#[(Ac k),Ac n],.agg #[(Ac k),Ac n]),(62,#[.bool false,i6 422,.agg #[(Ac k),Ac n]],.agg (Ai.arr (Ae false 422 ⟨(k:Int),(n:Int)⟩)))] (Dj 33 4) [Value.bool (win y24.Partition (-1) ((c.Aa.xs.length:Int) - 1))=Value.bool false,Value.bool (!(Ii c k y24.Partition))=Value.bool false] [(1,Ac k),(2,pt z),(AU z),(Bg k n c),(Bh b17 o18 y8),(Bc y8),(26,Ac n),(Bi n15),(NI k n),(I7 y24 k n),(Lj k n)] (.cells #[i6 0,i6 0,i6 0] 111 (0,0)) [0,1,2,3] ⟨(congrArg Value.bool (Bool.eq_false_iff.2 h27)),by simp[h109],Ag⟩ ⟨fun w113 hw113=>Bl w113 y24.Partition (-1) ((c.Aa.xs.length:Int) - 1),fun w114 hw114=>EH w114 (k:Int) (n:Int),fun w115 hw115=>AQ w115 (hL.ext (hw115.ext rfl)) false 419 (k:Int) (n:Int),fun w116 hw116=>Bl w116 y24.A8 82 16384,fun w117 hw117=>EH w117 (k:Int) (n:Int),fun w118 hw118=>AQ w118 (hL.ext (hw118.ext rfl)) (win y24.A8 82 16384) 420 (k:Int) (n:Int),fun w119 hw119=>OV w119 c (hc.ext (hw119.ext rfl) (fun _ h=>h)) k hk y24.Partition,fun w120 hw120=>EH w120 (k:Int) (n:Int),fun w121 hw121=>AQ w121 (hL.ext (hw121.ext rfl)) false 422 (k:Int) (n:Int),Ag⟩ ?_ (fun hv124 n122 hn123 => ?_)
      ·rintro⟨⟨n125,b126⟩,hb127⟩
       simp only at hb127
       refine Bo 33 ?_
       refine Bq o0 [8,1,2,4,5,24,25,26,7,64] [] [(8,pt b126),(1,Ac k),(2,pt z),(AU z),(Bg k n c),(Bh b17 o18 y8),(Bc y8),(26,Ac n),(Bi n15),(64,.slice (some ⟨n125,0,none⟩) 3 3)] ⟨w,n125+1,[(Ak w),(Bj z c),(Bv z),(BD y24 n15),(bk b126 #[i6 0,i6 0,i6 0] 111),(UN y24 k n n125)]⟩ [0,1,2,3] Ag (.inr rfl) ?_
       refine Bo 34 ?_
       refine EX 91 #[.slice (some ⟨n125,0,none⟩) 3 3] (some 65) (.agg (Ai.arr (AV [(Ae false 419 ⟨(k:Int),(n:Int)⟩),(Ae (win y24.A8 82 16384) 420 ⟨(k:Int),(n:Int)⟩),(Ae false 422 ⟨(k:Int),(n:Int)⟩)]))) [8,1,2,4,5,24,25,26,7,65] [(8,pt b126),(1,Ac k),(2,pt z),(AU z),(Bg k n c),(Bh b17 o18 y8),(Bc y8),(26,Ac n),(Bi n15),(NR y24 k n)] [0,1,2,3] (fun w128 hw128=>CE w128 (hL.ext (hw128.ext rfl)) ⟨some ⟨n125,0,none⟩,3,[(Ae false 419 ⟨(k:Int),(n:Int)⟩),(Ae (win y24.A8 82 16384) 420 ⟨(k:Int),(n:Int)⟩),(Ae false 422 ⟨(k:Int),(n:Int)⟩)]⟩ (Dy hw128 (i:=5) [(Ae false 419 ⟨(k:Int),(n:Int)⟩),(Ae (win y24.A8 82 16384) 420 ⟨(k:Int),(n:Int)⟩),(Ae false 422 ⟨(k:Int),(n:Int)⟩)]) (show 3≤1000 by decide)) (fun n129 hn130 => ?_)
       replace hn130:n125+1≤n129:=hn130
       refine Bo 36 ?_
       refine Bq (an 3 4) [8,1,2,4,5,24,25,26,7] [Qb b126,Qb b126,Qb b126] [(8,pt b126),(1,Ac k),(2,pt z),(AU z),(Bg k n c),(Bh b17 o18 y8),(Bc y8),(26,Ac n),(Bi n15)] ⟨w,n129,[(Ak w),(Bj z c),(Bv z),(BD y24 n15),(Vs y24 k n b126),(UN y24 k n n125)]⟩ [] ⟨rfl,rfl,rfl,Ag⟩ (.inl rfl) ?_
       refine D8 37 [0,1,2,3,4,5] [(Ak w),(Bj z c),(Bv z),(BD y24 n15),(Vs y24 k n b126),(UN y24 k n n125)] rfl rfl ?_
       refine CV ?_
       refine BR [1,2,4,5,24,25,26,7,8] [(1,Ac k),(2,pt z),(AU z),(Bg k n c),(Bh b17 o18 y8),(Bc y8),(26,Ac n),(Bi n15),(8,pt b126)] ?_
       refine Cc [0,1,2,3,5,4] [(Ak w),(Bj z c),(Bv z),(BD y24 n15),(UN y24 k n n125),(Vs y24 k n b126)] rfl rfl ?_
       exact hK ⟨(n129,n125,b126),by first | omega | (dsimp only;omega)⟩
      replace hn123:n15+1≤n122:=hn123
      refine Kq (fun x:{p:Nat×Nat×Nat // n122≤p.1∧n122≤p.2.1∧n122≤p.2.2}=>[(1,Ac k),(2,pt z),(AU z),(Bg k n c),(Bh b17 o18 y8),(Bc y8),(26,Ac n),(Bi n15),(8,pt x.1.2.1),(NR y24 k n)]) (fun x=>⟨w,x.1.1,[(Ak w),(Bj z c),(Bv z),(BD y24 n15),(.blk x.1.2.1 (.cells #[i6 0,i6 0,i6 0] 111 (0,0)) true),(.blk x.1.2.2 (.cells #[i6 ((Ae false 419 ⟨(k:Int),(n:Int)⟩).e),i6 ((Ae false 419 ⟨(k:Int),(n:Int)⟩).Af.First),i6 ((Ae false 419 ⟨(k:Int),(n:Int)⟩).Af.Second),i6 ((Ae (win y24.A8 82 16384) 420 ⟨(k:Int),(n:Int)⟩).e),i6 ((Ae (win y24.A8 82 16384) 420 ⟨(k:Int),(n:Int)⟩).Af.First),i6 ((Ae (win y24.A8 82 16384) 420 ⟨(k:Int),(n:Int)⟩).Af.Second),i6 ((Ae false 422 ⟨(k:Int),(n:Int)⟩).e),i6 ((Ae false 422 ⟨(k:Int),(n:Int)⟩).Af.First),i6 ((Ae false 422 ⟨(k:Int),(n:Int)⟩).Af.Second)] 111 (0,0)) true)]⟩) 1 (Dj 36 1) ?_ (fun hv134 => ?_)
      ·rintro⟨⟨n131,b132,b133⟩,hb135⟩
       simp only at hb135
       show Wg _ _ [(1,Ac k),(2,pt z),(AU z),(Bg k n c),(Bh b17 o18 y8),(Bc y8),(26,Ac n),(Bi n15),(8,pt b132),(NR y24 k n)] _ ⟨w,n131,[(Ak w),(Bj z c),(Bv z),(BD y24 n15),(bk b132 #[i6 0,i6 0,i6 0] 111),(U9 y24 k n b133)]⟩ _ _ _ _ _ _ _
       refine Bo 36 ?_
       refine Bq (an 3 4) [1,2,4,5,24,25,26,7,8] [Qb b132,Qb b132,Qb b132] [(1,Ac k),(2,pt z),(AU z),(Bg k n c),(Bh b17 o18 y8),(Bc y8),(26,Ac n),(Bi n15),(8,pt b132)] ⟨w,n131,[(Ak w),(Bj z c),(Bv z),(BD y24 n15),(Vt y24 k n b132),(U9 y24 k n b133)]⟩ [] ⟨rfl,rfl,rfl,Ag⟩ (.inl rfl) ?_
       refine D8 37 [0,1,2,3,4,5] [(Ak w),(Bj z c),(Bv z),(BD y24 n15),(Vt y24 k n b132),(U9 y24 k n b133)] rfl rfl ?_
       refine CV ?_
       refine BR [1,2,4,5,24,25,26,7,8] [(1,Ac k),(2,pt z),(AU z),(Bg k n c),(Bh b17 o18 y8),(Bc y8),(26,Ac n),(Bi n15),(8,pt b132)] ?_
       refine Cc [0,1,2,3,5,4] [(Ak w),(Bj z c),(Bv z),(BD y24 n15),(U9 y24 k n b133),(Vt y24 k n b132)] rfl rfl ?_
       exact hK ⟨(n131,b133,b132),by first | omega | (dsimp only;omega)⟩
      refine Kq (fun x:{p:Nat×Nat×Nat // n122≤p.1∧n122≤p.2.1∧n122≤p.2.2}=>[(1,Ac k),(2,pt z),(AU z),(Bg k n c),(Bh b17 o18 y8),(Bc y8),(26,Ac n),(Bi n15),(8,pt x.1.2.1),(64,.slice (some ⟨x.1.2.2,0,none⟩) 3 3)]) (fun x=>⟨w,x.1.1,[(Ak w),(Bj z c),(Bv z),(BD y24 n15),(.blk x.1.2.1 (.cells #[i6 0,i6 0,i6 0] 111 (0,0)) true),(.blk x.1.2.2 (.cells #[i6 ((Ae false 419 ⟨(k:Int),(n:Int)⟩).e),i6 ((Ae false 419 ⟨(k:Int),(n:Int)⟩).Af.First),i6 ((Ae false 419 ⟨(k:Int),(n:Int)⟩).Af.Second),i6 ((Ae (win y24.A8 82 16384) 420 ⟨(k:Int),(n:Int)⟩).e),i6 ((Ae (win y24.A8 82 16384) 420 ⟨(k:Int),(n:Int)⟩).Af.First),i6 ((Ae (win y24.A8 82 16384) 420 ⟨(k:Int),(n:Int)⟩).Af.Second),i6 ((Ae false 422 ⟨(k:Int),(n:Int)⟩).e),i6 ((Ae false 422 ⟨(k:Int),(n:Int)⟩).Af.First),i6 ((Ae false 422 ⟨(k:Int),(n:Int)⟩).Af.Second)] 111 (0,0)) true)]⟩) 2 [true,true,true,true,true,true,true,true,true,true,true,true,true,true,true,true,true,true,true,true,true,true,true,true,true,true,true,true,true,true,true,true,true,true,false,true,false] ?_ (fun hv139 => ?_)
      ·rintro⟨⟨n136,b137,b138⟩,hb140⟩
       simp only at hb140
       show Wg _ _ [(1,Ac k),(2,pt z),(AU z),(Bg k n c),(Bh b17 o18 y8),(Bc y8),(26,Ac n),(Bi n15),(8,pt b137),(64,.slice (some ⟨b138,0,none⟩) 3 3)] _ ⟨w,n136,[(Ak w),(Bj z c),(Bv z),(BD y24 n15),(bk b137 #[i6 0,i6 0,i6 0] 111),(bk b138 #[i6 ((Ae false 419 ⟨(k:Int),(n:Int)⟩).e),i6 ((Ae false 419 ⟨(k:Int),(n:Int)⟩).Af.First),i6 ((Ae false 419 ⟨(k:Int),(n:Int)⟩).Af.Second),i6 ((Ae (win y24.A8 82 16384) 420 ⟨(k:Int),(n:Int)⟩).e),i6 ((Ae (win y24.A8 82 16384) 420 ⟨(k:Int),(n:Int)⟩).Af.First),i6 ((Ae (win y24.A8 82 16384) 420 ⟨(k:Int),(n:Int)⟩).Af.Second),i6 ((Ae false 422 ⟨(k:Int),(n:Int)⟩).e),i6 ((Ae false 422 ⟨(k:Int),(n:Int)⟩).Af.First),i6 ((Ae false 422 ⟨(k:Int),(n:Int)⟩).Af.Second)] 111)]⟩ _ _ _ _ _ _ _
       refine Bo 34 ?_
       refine EX 91 #[.slice (some ⟨b138,0,none⟩) 3 3] (some 65) (.agg (Ai.arr (AV [(Ae false 419 ⟨(k:Int),(n:Int)⟩),(Ae (win y24.A8 82 16384) 420 ⟨(k:Int),(n:Int)⟩),(Ae false 422 ⟨(k:Int),(n:Int)⟩)]))) [1,2,4,5,24,25,26,7,8,65] [(1,Ac k),(2,pt z),(AU z),(Bg k n c),(Bh b17 o18 y8),(Bc y8),(26,Ac n),(Bi n15),(8,pt b137),(NR y24 k n)] [0,1,2,3] (fun w141 hw141=>CE w141 (hL.ext (hw141.ext rfl)) ⟨some ⟨b138,0,none⟩,3,[(Ae false 419 ⟨(k:Int),(n:Int)⟩),(Ae (win y24.A8 82 16384) 420 ⟨(k:Int),(n:Int)⟩),(Ae false 422 ⟨(k:Int),(n:Int)⟩)]⟩ (Dy hw141 (i:=5) [(Ae false 419 ⟨(k:Int),(n:Int)⟩),(Ae (win y24.A8 82 16384) 420 ⟨(k:Int),(n:Int)⟩),(Ae false 422 ⟨(k:Int),(n:Int)⟩)]) (show 3≤1000 by decide)) (fun n142 hn143 => ?_)
       replace hn143:n136≤n142:=hn143
       refine CZ [1,2,4,5,24,25,26,7,8,65] [(1,Ac k),(2,pt z),(AU z),(Bg k n c),(Bh b17 o18 y8),(Bc y8),(26,Ac n),(Bi n15),(8,pt b137),(NR y24 k n)] ?_
       exact hv134 ⟨(n142,b137,b138),by first | omega | (dsimp only;omega)⟩
      refine Ij [33,35] ?_
      refine List.forall_mem_cons.2 ⟨?_,List.forall_mem_cons.2 ⟨?_,fun _ h=>absurd h List.not_mem_nil⟩⟩
      ·refine Bq o0 [1,2,4,5,24,25,26,7,64] [] [(1,Ac k),(2,pt z),(AU z),(Bg k n c),(Bh b17 o18 y8),(Bc y8),(26,Ac n),(Bi n15),(64,.slice (some ⟨n122,0,none⟩) 3 3)] ⟨w,n122+1,[(Ak w),(Bj z c),(Bv z),(BD y24 n15),(RU y24 k n n122)]⟩ [0,1,2,3] Ag (.inr rfl) ?_
       refine Ij [34,35] ?_
       refine List.forall_mem_cons.2 ⟨?_,List.forall_mem_cons.2 ⟨?_,fun _ h=>absurd h List.not_mem_nil⟩⟩
       ·refine EX 91 #[.slice (some ⟨n122,0,none⟩) 3 3] (some 65) (.agg (Ai.arr (AV [(Ae false 419 ⟨(k:Int),(n:Int)⟩),(Ae (win y24.A8 82 16384) 420 ⟨(k:Int),(n:Int)⟩),(Ae false 422 ⟨(k:Int),(n:Int)⟩)]))) [1,2,4,5,24,25,26,7,65] [(1,Ac k),(2,pt z),(AU z),(Bg k n c),(Bh b17 o18 y8),(Bc y8),(26,Ac n),(Bi n15),(NR y24 k n)] [0,1,2,3] (fun w144 hw144=>CE w144 (hL.ext (hw144.ext rfl)) ⟨some ⟨n122,0,none⟩,3,[(Ae false 419 ⟨(k:Int),(n:Int)⟩),(Ae (win y24.A8 82 16384) 420 ⟨(k:Int),(n:Int)⟩),(Ae false 422 ⟨(k:Int),(n:Int)⟩)]⟩ (Dy hw144 (i:=4) [(Ae false 419 ⟨(k:Int),(n:Int)⟩),(Ae (win y24.A8 82 16384) 420 ⟨(k:Int),(n:Int)⟩),(Ae false 422 ⟨(k:Int),(n:Int)⟩)]) (show 3≤1000 by decide)) (fun n145 hn146 => ?_)
        replace hn146:n122+1≤n145:=hn146
        refine Bo 35 ?_
        refine Bq o0 [1,2,4,5,24,25,26,7,65,8] [] [(1,Ac k),(2,pt z),(AU z),(Bg k n c),(Bh b17 o18 y8),(Bc y8),(26,Ac n),(Bi n15),(NR y24 k n),(8,pt n145)] ⟨w,n145+1,[(Ak w),(Bj z c),(Bv z),(BD y24 n15),(RU y24 k n n122),(bk n145 #[i6 0,i6 0,i6 0] 111)]⟩ [0,1,2,3] Ag (.inr rfl) ?_
        refine Jl [0,1,2,3,5,4] [(Ak w),(Bj z c),(Bv z),(BD y24 n15),(bk n145 #[i6 0,i6 0,i6 0] 111),(RU y24 k n n122)] rfl rfl ?_
        refine CZ [1,2,4,5,24,25,26,7,8,65] [(1,Ac k),(2,pt z),(AU z),(Bg k n c),(Bh b17 o18 y8),(Bc y8),(26,Ac n),(Bi n15),(8,pt n145),(NR y24 k n)] ?_
        exact hv134 ⟨(n145+1,n145,n122),by first | omega | (dsimp only;omega)⟩
       refine Bq o0 [1,2,4,5,24,25,26,7,64,8] [] [(1,Ac k),(2,pt z),(AU z),(Bg k n c),(Bh b17 o18 y8),(Bc y8),(26,Ac n),(Bi n15),(64,.slice (some ⟨n122,0,none⟩) 3 3),(8,pt (n122+1))] ⟨w,n122+2,[(Ak w),(Bj z c),(Bv z),(BD y24 n15),(RU y24 k n n122),(bk (n122+1) #[i6 0,i6 0,i6 0] 111)]⟩ [0,1,2,3] Ag (.inr rfl) ?_
       refine Jl [0,1,2,3,5,4] [(Ak w),(Bj z c),(Bv z),(BD y24 n15),(bk (n122+1) #[i6 0,i6 0,i6 0] 111),(RU y24 k n n122)] rfl rfl ?_
       refine CZ [1,2,4,5,24,25,26,7,8,64] [(1,Ac k),(2,pt z),(AU z),(Bg k n c),(Bh b17 o18 y8),(Bc y8),(26,Ac n),(Bi n15),(8,pt (n122+1)),(64,.slice (some ⟨n122,0,none⟩) 3 3)] ?_
       exact hv139 ⟨(n122+2,n122+1,n122),by first | omega | (dsimp only;omega)⟩
      refine Bq o0 [1,2,4,5,24,25,26,7,46,53,63,8] [] [(1,Ac k),(2,pt z),(AU z),(Bg k n c),(Bh b17 o18 y8),(Bc y8),(26,Ac n),(Bi n15),(NI k n),(I7 y24 k n),(Lj k n),(8,pt n122)] ⟨w,n122+1,[(Ak w),(Bj z c),(Bv z),(BD y24 n15),(bk n122 #[i6 0,i6 0,i6 0] 111)]⟩ [0,1,2,3] Ag (.inr rfl) ?_
      refine CZ [8,1,2,4,5,24,25,26,7,46,53,63] [(8,pt n122),(1,Ac k),(2,pt z),(AU z),(Bg k n c),(Bh b17 o18 y8),(Bc y8),(26,Ac n),(Bi n15),(NI k n),(I7 y24 k n),(Lj k n)] ?_
      exact hv124 ⟨(n122+1,n122),by first | omega | (dsimp only;omega)⟩
     rintro⟨⟨n110,b111,b112⟩,hJ147⟩
     simp only at hJ147
     show E _ _ [(1,Ac k),(2,pt z),(AU z),(Bg k n c),(Bh b17 o18 y8),(Bc y8),(26,Ac n),(Bi n15),(8,pt b112)] _ ⟨w,n110,[(Ak w),(Bj z c),(Bv z),(BD y24 n15),(bk b111 #[i6 ((Ae false 419 ⟨(k:Int),(n:Int)⟩).e),i6 ((Ae false 419 ⟨(k:Int),(n:Int)⟩).Af.First),i6 ((Ae false 419 ⟨(k:Int),(n:Int)⟩).Af.Second),i6 ((Ae (win y24.A8 82 16384) 420 ⟨(k:Int),(n:Int)⟩).e),i6 ((Ae (win y24.A8 82 16384) 420 ⟨(k:Int),(n:Int)⟩).Af.First),i6 ((Ae (win y24.A8 82 16384) 420 ⟨(k:Int),(n:Int)⟩).Af.Second),i6 ((Ae false 422 ⟨(k:Int),(n:Int)⟩).e),i6 ((Ae false 422 ⟨(k:Int),(n:Int)⟩).Af.First),i6 ((Ae false 422 ⟨(k:Int),(n:Int)⟩).Af.Second)] 111),(VI y24 k n b112)]⟩ _ _ _
     refine Cc [0,1,2,3,5] [(Ak w),(Bj z c),(Bv z),(BD y24 n15),(VI y24 k n b112)] rfl rfl ?_
     have e0:gd (DX c k).xs n=y24:=(by rw[hy24,hy8])
     have eA:EY c k n=(AV [(Ae false 419 ⟨(k:Int),(n:Int)⟩),(Ae (win y24.A8 82 16384) 420 ⟨(k:Int),(n:Int)⟩),(Ae false 422 ⟨(k:Int),(n:Int)⟩)]):=(by unfold EY Pz;simp only[e0];simp[h27,h109])
     refine BR [1,2,4,5,7,8,24,25,26] [(1,Ac k),(2,pt z),(AU z),(Bg k n c),(Bi n15),(8,pt b112),(Bh b17 o18 y8),(Bc y8),(26,Ac n)] ?_
     refine Cj (fun a w' hs=>⟨n110,b112,by omega,(by(try dsimp only[VI,Bv,BD,Bj,I7,Lj,NI,Nu,Bh,Bc,AU,Jt,Bg,Bi]at hs ⊢);rw[eA];exact hs)⟩)
    refine DN 36 [0,1,2,3] [(Ak w),(Bj z c),(Bv z),(BD y24 n15)] rfl rfl ?_
    refine Dc [(0,o0),(1,(a1 3)),(2,o0),(3,(a1 1)),(4,o0),(5,(ov (i6 ((c.Aa.xs.length:Int) - 1)))),(12,o0),(13,o0),(16,o0),(17,(a1 3)),(19,o0),(20,o0),(23,(an 7 1)),(24,o0),(25,o0),(26,(a1 3)),(29,o0),(30,o0)] [1,2,4,5,24,25,26,7,32,36,43,44,48,50,51,54,55,57,60,61] [Qb n15,Qb z,Wr ((c.Aa.xs.length:Int) - 1) ((c.Aa.xs.length:Int) - 1),Qb n15,Qb z,Qb z,Qb z,Qb z,Qb z,Qb z,Qb z,Qb n15] [true,true,true,true,true,true,false,false,false,false,false,false,true,true,false,false,true,true,false,true,true,false,false,true,true,true,true,false,false,true,true,false,false,false,false,false,false] [(1,Ac k),(2,pt z),(AU z),(Bg k n c),(Bh b17 o18 y8),(Bc y8),(26,Ac n),(Bi n15),(32,i6 y24.Partition),(Nu c),(43,Ac k),(44,Ac n),(48,i6 y24.A8),(50,Ac k),(51,Ac n),(54,.agg (Aj.arr c)),(55,Ac k),(57,i6 y24.Partition),(60,Ac k),(61,Ac n)] ⟨rfl,rfl,CU,rfl,rfl,rfl,rfl,rfl,rfl,rfl,rfl,rfl,Ag⟩ ?_
    refine Ox (fun x:{p:Nat×Nat×Nat // n15+1≤p.1∧n15+1≤p.2.1∧n15+1≤p.2.2}=>([(1,Ac k),(2,pt z),(AU z),(Bg k n c),(Bh b17 o18 y8),(Bc y8),(26,Ac n),(Bi n15),(8,pt x.1.2.2)],⟨w,x.1.1,[(Ak w),(Bj z c),(Bv z),(BD y24 n15),(.blk x.1.2.1 (.cells #[i6 ((Ae false 419 ⟨(k:Int),(n:Int)⟩).e),i6 ((Ae false 419 ⟨(k:Int),(n:Int)⟩).Af.First),i6 ((Ae false 419 ⟨(k:Int),(n:Int)⟩).Af.Second),i6 ((Ae (win y24.A8 82 16384) 420 ⟨(k:Int),(n:Int)⟩).e),i6 ((Ae (win y24.A8 82 16384) 420 ⟨(k:Int),(n:Int)⟩).Af.First),i6 ((Ae (win y24.A8 82 16384) 420 ⟨(k:Int),(n:Int)⟩).Af.Second),i6 ((Ae true 422 ⟨(k:Int),(n:Int)⟩).e),i6 ((Ae true 422 ⟨(k:Int),(n:Int)⟩).Af.First),i6 ((Ae true 422 ⟨(k:Int),(n:Int)⟩).Af.Second)] 111 (0,0)) true),(.blk x.1.2.2 (.cells (Ai.arr (AV [(Ae false 419 ⟨(k:Int),(n:Int)⟩),(Ae (win y24.A8 82 16384) 420 ⟨(k:Int),(n:Int)⟩),(Ae true 422 ⟨(k:Int),(n:Int)⟩)])) 111 (0,0)) true)]⟩)) (fun hK => ?_) ?_
    ·refine Me 35 8 [.cl 6 (.bool (win y24.Partition (-1) ((c.Aa.xs.length:Int) - 1))),.tk 7 (ov (.bool false)),.tk 8 o0,.tk 9 o0,.tk 10 o0,.tk 11 o0,.cl 14 (.agg #[(Ac k),Ac n]),.cl 15 (.agg (Ai.arr (Ae false 419 ⟨(k:Int),(n:Int)⟩))),.cl 18 (.bool (win y24.A8 82 16384)),.cl 21 (.agg #[(Ac k),Ac n]),.cl 22 (.agg (Ai.arr (Ae (win y24.A8 82 16384) 420 ⟨(k:Int),(n:Int)⟩))),.cl 27 (.bool (Ii c k y24.Partition)),.tk 28 (ov (.bool true)),.cl 31 (.agg #[(Ac k),Ac n]),.cl 32 (.agg (Ai.arr (Ae true 422 ⟨(k:Int),(n:Int)⟩)))] [1,2,4,5,24,25,26,7,46,53,63] [(63,#[i6 y24.Partition,i6 (-1),i6 ((c.Aa.xs.length:Int) - 1)],.bool (win y24.Partition (-1) ((c.Aa.xs.length:Int) - 1))),(96,#[(Ac k),Ac n],.agg #[(Ac k),Ac n]),(62,#[.bool false,i6 419,.agg #[(Ac k),Ac n]],.agg (Ai.arr (Ae false 419 ⟨(k:Int),(n:Int)⟩))),(63,#[i6 y24.A8,i6 82,i6 16384],.bool (win y24.A8 82 16384)),(96,#[(Ac k),Ac n],.agg #[(Ac k),Ac n]),(62,#[.bool (win y24.A8 82 16384),i6 420,.agg #[(Ac k),Ac n]],.agg (Ai.arr (Ae (win y24.A8 82 16384) 420 ⟨(k:Int),(n:Int)⟩))),(98,#[.agg (Aj.arr c),Ac k,i6 y24.Partition],.bool (Ii c k y24.Partition)),(96,#[(Ac k),Ac n],.agg #[(Ac k),Ac n]),(62,#[.bool true,i6 422,.agg #[(Ac k),Ac n]],.agg (Ai.arr (Ae true 422 ⟨(k:Int),(n:Int)⟩)))] (Dj 33 4) [Value.bool (win y24.Partition (-1) ((c.Aa.xs.length:Int) - 1))=Value.bool false,Value.bool (!(Ii c k y24.Partition))=Value.bool true] [(1,Ac k),(2,pt z),(AU z),(Bg k n c),(Bh b17 o18 y8),(Bc y8),(26,Ac n),(Bi n15),(NI k n),(I7 y24 k n),(NM k n)] (.cells #[i6 0,i6 0,i6 0] 111 (0,0)) [0,1,2,3] ⟨(congrArg Value.bool (Bool.eq_false_iff.2 h27)),by simp[h109],Ag⟩ ⟨fun w151 hw151=>Bl w151 y24.Partition (-1) ((c.Aa.xs.length:Int) - 1),fun w152 hw152=>EH w152 (k:Int) (n:Int),fun w153 hw153=>AQ w153 (hL.ext (hw153.ext rfl)) false 419 (k:Int) (n:Int),fun w154 hw154=>Bl w154 y24.A8 82 16384,fun w155 hw155=>EH w155 (k:Int) (n:Int),fun w156 hw156=>AQ w156 (hL.ext (hw156.ext rfl)) (win y24.A8 82 16384) 420 (k:Int) (n:Int),fun w157 hw157=>OV w157 c (hc.ext (hw157.ext rfl) (fun _ h=>h)) k hk y24.Partition,fun w158 hw158=>EH w158 (k:Int) (n:Int),fun w159 hw159=>AQ w159 (hL.ext (hw159.ext rfl)) true 422 (k:Int) (n:Int),Ag⟩ ?_ (fun hv162 n160 hn161 => ?_)
     ·rintro⟨⟨n163,b164⟩,hb165⟩
      simp only at hb165
      refine Bo 33 ?_
      refine Bq o0 [8,1,2,4,5,24,25,26,7,64] [] [(8,pt b164),(1,Ac k),(2,pt z),(AU z),(Bg k n c),(Bh b17 o18 y8),(Bc y8),(26,Ac n),(Bi n15),(64,.slice (some ⟨n163,0,none⟩) 3 3)] ⟨w,n163+1,[(Ak w),(Bj z c),(Bv z),(BD y24 n15),(bk b164 #[i6 0,i6 0,i6 0] 111),(UR y24 k n n163)]⟩ [0,1,2,3] Ag (.inr rfl) ?_
      refine Bo 34 ?_
      refine EX 91 #[.slice (some ⟨n163,0,none⟩) 3 3] (some 65) (.agg (Ai.arr (AV [(Ae false 419 ⟨(k:Int),(n:Int)⟩),(Ae (win y24.A8 82 16384) 420 ⟨(k:Int),(n:Int)⟩),(Ae true 422 ⟨(k:Int),(n:Int)⟩)]))) [8,1,2,4,5,24,25,26,7,65] [(8,pt b164),(1,Ac k),(2,pt z),(AU z),(Bg k n c),(Bh b17 o18 y8),(Bc y8),(26,Ac n),(Bi n15),(NG y24 k n)] [0,1,2,3] (fun w166 hw166=>CE w166 (hL.ext (hw166.ext rfl)) ⟨some ⟨n163,0,none⟩,3,[(Ae false 419 ⟨(k:Int),(n:Int)⟩),(Ae (win y24.A8 82 16384) 420 ⟨(k:Int),(n:Int)⟩),(Ae true 422 ⟨(k:Int),(n:Int)⟩)]⟩ (Dy hw166 (i:=5) [(Ae false 419 ⟨(k:Int),(n:Int)⟩),(Ae (win y24.A8 82 16384) 420 ⟨(k:Int),(n:Int)⟩),(Ae true 422 ⟨(k:Int),(n:Int)⟩)]) (show 3≤1000 by decide)) (fun n167 hn168 => ?_)
      replace hn168:n163+1≤n167:=hn168
      refine Bo 36 ?_
      refine Bq (an 3 4) [8,1,2,4,5,24,25,26,7] [Qb b164,Qb b164,Qb b164] [(8,pt b164),(1,Ac k),(2,pt z),(AU z),(Bg k n c),(Bh b17 o18 y8),(Bc y8),(26,Ac n),(Bi n15)] ⟨w,n167,[(Ak w),(Bj z c),(Bv z),(BD y24 n15),(VD y24 k n b164),(UR y24 k n n163)]⟩ [] ⟨rfl,rfl,rfl,Ag⟩ (.inl rfl) ?_
      refine D8 37 [0,1,2,3,4,5] [(Ak w),(Bj z c),(Bv z),(BD y24 n15),(VD y24 k n b164),(UR y24 k n n163)] rfl rfl ?_
      refine CV ?_
      refine BR [1,2,4,5,24,25,26,7,8] [(1,Ac k),(2,pt z),(AU z),(Bg k n c),(Bh b17 o18 y8),(Bc y8),(26,Ac n),(Bi n15),(8,pt b164)] ?_
      refine Cc [0,1,2,3,5,4] [(Ak w),(Bj z c),(Bv z),(BD y24 n15),(UR y24 k n n163),(VD y24 k n b164)] rfl rfl ?_
      exact hK ⟨(n167,n163,b164),by first | omega | (dsimp only;omega)⟩
     replace hn161:n15+1≤n160:=hn161
     refine Kq (fun x:{p:Nat×Nat×Nat // n160≤p.1∧n160≤p.2.1∧n160≤p.2.2}=>[(1,Ac k),(2,pt z),(AU z),(Bg k n c),(Bh b17 o18 y8),(Bc y8),(26,Ac n),(Bi n15),(8,pt x.1.2.1),(NG y24 k n)]) (fun x=>⟨w,x.1.1,[(Ak w),(Bj z c),(Bv z),(BD y24 n15),(.blk x.1.2.1 (.cells #[i6 0,i6 0,i6 0] 111 (0,0)) true),(.blk x.1.2.2 (.cells #[i6 ((Ae false 419 ⟨(k:Int),(n:Int)⟩).e),i6 ((Ae false 419 ⟨(k:Int),(n:Int)⟩).Af.First),i6 ((Ae false 419 ⟨(k:Int),(n:Int)⟩).Af.Second),i6 ((Ae (win y24.A8 82 16384) 420 ⟨(k:Int),(n:Int)⟩).e),i6 ((Ae (win y24.A8 82 16384) 420 ⟨(k:Int),(n:Int)⟩).Af.First),i6 ((Ae (win y24.A8 82 16384) 420 ⟨(k:Int),(n:Int)⟩).Af.Second),i6 ((Ae true 422 ⟨(k:Int),(n:Int)⟩).e),i6 ((Ae true 422 ⟨(k:Int),(n:Int)⟩).Af.First),i6 ((Ae true 422 ⟨(k:Int),(n:Int)⟩).Af.Second)] 111 (0,0)) true)]⟩) 1 (Dj 36 1) ?_ (fun hv172 => ?_)
     ·rintro⟨⟨n169,b170,b171⟩,hb173⟩
      simp only at hb173
      show Wg _ _ [(1,Ac k),(2,pt z),(AU z),(Bg k n c),(Bh b17 o18 y8),(Bc y8),(26,Ac n),(Bi n15),(8,pt b170),(NG y24 k n)] _ ⟨w,n169,[(Ak w),(Bj z c),(Bv z),(BD y24 n15),(bk b170 #[i6 0,i6 0,i6 0] 111),(TL y24 k n b171)]⟩ _ _ _ _ _ _ _
      refine Bo 36 ?_
      refine Bq (an 3 4) [1,2,4,5,24,25,26,7,8] [Qb b170,Qb b170,Qb b170] [(1,Ac k),(2,pt z),(AU z),(Bg k n c),(Bh b17 o18 y8),(Bc y8),(26,Ac n),(Bi n15),(8,pt b170)] ⟨w,n169,[(Ak w),(Bj z c),(Bv z),(BD y24 n15),(Vk y24 k n b170),(TL y24 k n b171)]⟩ [] ⟨rfl,rfl,rfl,Ag⟩ (.inl rfl) ?_
      refine D8 37 [0,1,2,3,4,5] [(Ak w),(Bj z c),(Bv z),(BD y24 n15),(Vk y24 k n b170),(TL y24 k n b171)] rfl rfl ?_
      refine CV ?_
      refine BR [1,2,4,5,24,25,26,7,8] [(1,Ac k),(2,pt z),(AU z),(Bg k n c),(Bh b17 o18 y8),(Bc y8),(26,Ac n),(Bi n15),(8,pt b170)] ?_
      refine Cc [0,1,2,3,5,4] [(Ak w),(Bj z c),(Bv z),(BD y24 n15),(TL y24 k n b171),(Vk y24 k n b170)] rfl rfl ?_
      exact hK ⟨(n169,b171,b170),by first | omega | (dsimp only;omega)⟩
     refine Kq (fun x:{p:Nat×Nat×Nat // n160≤p.1∧n160≤p.2.1∧n160≤p.2.2}=>[(1,Ac k),(2,pt z),(AU z),(Bg k n c),(Bh b17 o18 y8),(Bc y8),(26,Ac n),(Bi n15),(8,pt x.1.2.1),(64,.slice (some ⟨x.1.2.2,0,none⟩) 3 3)]) (fun x=>⟨w,x.1.1,[(Ak w),(Bj z c),(Bv z),(BD y24 n15),(.blk x.1.2.1 (.cells #[i6 0,i6 0,i6 0] 111 (0,0)) true),(.blk x.1.2.2 (.cells #[i6 ((Ae false 419 ⟨(k:Int),(n:Int)⟩).e),i6 ((Ae false 419 ⟨(k:Int),(n:Int)⟩).Af.First),i6 ((Ae false 419 ⟨(k:Int),(n:Int)⟩).Af.Second),i6 ((Ae (win y24.A8 82 16384) 420 ⟨(k:Int),(n:Int)⟩).e),i6 ((Ae (win y24.A8 82 16384) 420 ⟨(k:Int),(n:Int)⟩).Af.First),i6 ((Ae (win y24.A8 82 16384) 420 ⟨(k:Int),(n:Int)⟩).Af.Second),i6 ((Ae true 422 ⟨(k:Int),(n:Int)⟩).e),i6 ((Ae true 422 ⟨(k:Int),(n:Int)⟩).Af.First),i6 ((Ae true 422 ⟨(k:Int),(n:Int)⟩).Af.Second)] 111 (0,0)) true)]⟩) 2 [true,true,true,true,true,true,true,true,true,true,true,true,true,true,true,true,true,true,true,true,true,true,true,true,true,true,true,true,true,true,true,true,true,true,false,true,false] ?_ (fun hv177 => ?_)
     ·rintro⟨⟨n174,b175,b176⟩,hb178⟩
      simp only at hb178
      show Wg _ _ [(1,Ac k),(2,pt z),(AU z),(Bg k n c),(Bh b17 o18 y8),(Bc y8),(26,Ac n),(Bi n15),(8,pt b175),(64,.slice (some ⟨b176,0,none⟩) 3 3)] _ ⟨w,n174,[(Ak w),(Bj z c),(Bv z),(BD y24 n15),(bk b175 #[i6 0,i6 0,i6 0] 111),(bk b176 #[i6 ((Ae false 419 ⟨(k:Int),(n:Int)⟩).e),i6 ((Ae false 419 ⟨(k:Int),(n:Int)⟩).Af.First),i6 ((Ae false 419 ⟨(k:Int),(n:Int)⟩).Af.Second),i6 ((Ae (win y24.A8 82 16384) 420 ⟨(k:Int),(n:Int)⟩).e),i6 ((Ae (win y24.A8 82 16384) 420 ⟨(k:Int),(n:Int)⟩).Af.First),i6 ((Ae (win y24.A8 82 16384) 420 ⟨(k:Int),(n:Int)⟩).Af.Second),i6 ((Ae true 422 ⟨(k:Int),(n:Int)⟩).e),i6 ((Ae true 422 ⟨(k:Int),(n:Int)⟩).Af.First),i6 ((Ae true 422 ⟨(k:Int),(n:Int)⟩).Af.Second)] 111)]⟩ _ _ _ _ _ _ _
      refine Bo 34 ?_
      refine EX 91 #[.slice (some ⟨b176,0,none⟩) 3 3] (some 65) (.agg (Ai.arr (AV [(Ae false 419 ⟨(k:Int),(n:Int)⟩),(Ae (win y24.A8 82 16384) 420 ⟨(k:Int),(n:Int)⟩),(Ae true 422 ⟨(k:Int),(n:Int)⟩)]))) [1,2,4,5,24,25,26,7,8,65] [(1,Ac k),(2,pt z),(AU z),(Bg k n c),(Bh b17 o18 y8),(Bc y8),(26,Ac n),(Bi n15),(8,pt b175),(NG y24 k n)] [0,1,2,3] (fun w179 hw179=>CE w179 (hL.ext (hw179.ext rfl)) ⟨some ⟨b176,0,none⟩,3,[(Ae false 419 ⟨(k:Int),(n:Int)⟩),(Ae (win y24.A8 82 16384) 420 ⟨(k:Int),(n:Int)⟩),(Ae true 422 ⟨(k:Int),(n:Int)⟩)]⟩ (Dy hw179 (i:=5) [(Ae false 419 ⟨(k:Int),(n:Int)⟩),(Ae (win y24.A8 82 16384) 420 ⟨(k:Int),(n:Int)⟩),(Ae true 422 ⟨(k:Int),(n:Int)⟩)]) (show 3≤1000 by decide)) (fun n180 hn181 => ?_)
      replace hn181:n174≤n180:=hn181
      refine CZ [1,2,4,5,24,25,26,7,8,65] [(1,Ac k),(2,pt z),(AU z),(Bg k n c),(Bh b17 o18 y8),(Bc y8),(26,Ac n),(Bi n15),(8,pt b175),(NG y24 k n)] ?_
      exact hv172 ⟨(n180,b175,b176),by first | omega | (dsimp only;omega)⟩
     refine Ij [33,35] ?_
     refine List.forall_mem_cons.2 ⟨?_,List.forall_mem_cons.2 ⟨?_,fun _ h=>absurd h List.not_mem_nil⟩⟩
     ·refine Bq o0 [1,2,4,5,24,25,26,7,64] [] [(1,Ac k),(2,pt z),(AU z),(Bg k n c),(Bh b17 o18 y8),(Bc y8),(26,Ac n),(Bi n15),(64,.slice (some ⟨n160,0,none⟩) 3 3)] ⟨w,n160+1,[(Ak w),(Bj z c),(Bv z),(BD y24 n15),(QO y24 k n n160)]⟩ [0,1,2,3] Ag (.inr rfl) ?_
      refine Ij [34,35] ?_
      refine List.forall_mem_cons.2 ⟨?_,List.forall_mem_cons.2 ⟨?_,fun _ h=>absurd h List.not_mem_nil⟩⟩
      ·refine EX 91 #[.slice (some ⟨n160,0,none⟩) 3 3] (some 65) (.agg (Ai.arr (AV [(Ae false 419 ⟨(k:Int),(n:Int)⟩),(Ae (win y24.A8 82 16384) 420 ⟨(k:Int),(n:Int)⟩),(Ae true 422 ⟨(k:Int),(n:Int)⟩)]))) [1,2,4,5,24,25,26,7,65] [(1,Ac k),(2,pt z),(AU z),(Bg k n c),(Bh b17 o18 y8),(Bc y8),(26,Ac n),(Bi n15),(NG y24 k n)] [0,1,2,3] (fun w182 hw182=>CE w182 (hL.ext (hw182.ext rfl)) ⟨some ⟨n160,0,none⟩,3,[(Ae false 419 ⟨(k:Int),(n:Int)⟩),(Ae (win y24.A8 82 16384) 420 ⟨(k:Int),(n:Int)⟩),(Ae true 422 ⟨(k:Int),(n:Int)⟩)]⟩ (Dy hw182 (i:=4) [(Ae false 419 ⟨(k:Int),(n:Int)⟩),(Ae (win y24.A8 82 16384) 420 ⟨(k:Int),(n:Int)⟩),(Ae true 422 ⟨(k:Int),(n:Int)⟩)]) (show 3≤1000 by decide)) (fun n183 hn184 => ?_)
       replace hn184:n160+1≤n183:=hn184
       refine Bo 35 ?_
       refine Bq o0 [1,2,4,5,24,25,26,7,65,8] [] [(1,Ac k),(2,pt z),(AU z),(Bg k n c),(Bh b17 o18 y8),(Bc y8),(26,Ac n),(Bi n15),(NG y24 k n),(8,pt n183)] ⟨w,n183+1,[(Ak w),(Bj z c),(Bv z),(BD y24 n15),(QO y24 k n n160),(bk n183 #[i6 0,i6 0,i6 0] 111)]⟩ [0,1,2,3] Ag (.inr rfl) ?_
       refine Jl [0,1,2,3,5,4] [(Ak w),(Bj z c),(Bv z),(BD y24 n15),(bk n183 #[i6 0,i6 0,i6 0] 111),(QO y24 k n n160)] rfl rfl ?_
       refine CZ [1,2,4,5,24,25,26,7,8,65] [(1,Ac k),(2,pt z),(AU z),(Bg k n c),(Bh b17 o18 y8),(Bc y8),(26,Ac n),(Bi n15),(8,pt n183),(NG y24 k n)] ?_
       exact hv172 ⟨(n183+1,n183,n160),by first | omega | (dsimp only;omega)⟩
      refine Bq o0 [1,2,4,5,24,25,26,7,64,8] [] [(1,Ac k),(2,pt z),(AU z),(Bg k n c),(Bh b17 o18 y8),(Bc y8),(26,Ac n),(Bi n15),(64,.slice (some ⟨n160,0,none⟩) 3 3),(8,pt (n160+1))] ⟨w,n160+2,[(Ak w),(Bj z c),(Bv z),(BD y24 n15),(QO y24 k n n160),(bk (n160+1) #[i6 0,i6 0,i6 0] 111)]⟩ [0,1,2,3] Ag (.inr rfl) ?_
      refine Jl [0,1,2,3,5,4] [(Ak w),(Bj z c),(Bv z),(BD y24 n15),(bk (n160+1) #[i6 0,i6 0,i6 0] 111),(QO y24 k n n160)] rfl rfl ?_
      refine CZ [1,2,4,5,24,25,26,7,8,64] [(1,Ac k),(2,pt z),(AU z),(Bg k n c),(Bh b17 o18 y8),(Bc y8),(26,Ac n),(Bi n15),(8,pt (n160+1)),(64,.slice (some ⟨n160,0,none⟩) 3 3)] ?_
      exact hv177 ⟨(n160+2,n160+1,n160),by first | omega | (dsimp only;omega)⟩
     refine Bq o0 [1,2,4,5,24,25,26,7,46,53,63,8] [] [(1,Ac k),(2,pt z),(AU z),(Bg k n c),(Bh b17 o18 y8),(Bc y8),(26,Ac n),(Bi n15),(NI k n),(I7 y24 k n),(NM k n),(8,pt n160)] ⟨w,n160+1,[(Ak w),(Bj z c),(Bv z),(BD y24 n15),(bk n160 #[i6 0,i6 0,i6 0] 111)]⟩ [0,1,2,3] Ag (.inr rfl) ?_
     refine CZ [8,1,2,4,5,24,25,26,7,46,53,63] [(8,pt n160),(1,Ac k),(2,pt z),(AU z),(Bg k n c),(Bh b17 o18 y8),(Bc y8),(26,Ac n),(Bi n15),(NI k n),(I7 y24 k n),(NM k n)] ?_
     exact hv162 ⟨(n160+1,n160),by first | omega | (dsimp only;omega)⟩
    rintro⟨⟨n148,b149,b150⟩,hJ185⟩
    simp only at hJ185
    show E _ _ [(1,Ac k),(2,pt z),(AU z),(Bg k n c),(Bh b17 o18 y8),(Bc y8),(26,Ac n),(Bi n15),(8,pt b150)] _ ⟨w,n148,[(Ak w),(Bj z c),(Bv z),(BD y24 n15),(bk b149 #[i6 ((Ae false 419 ⟨(k:Int),(n:Int)⟩).e),i6 ((Ae false 419 ⟨(k:Int),(n:Int)⟩).Af.First),i6 ((Ae false 419 ⟨(k:Int),(n:Int)⟩).Af.Second),i6 ((Ae (win y24.A8 82 16384) 420 ⟨(k:Int),(n:Int)⟩).e),i6 ((Ae (win y24.A8 82 16384) 420 ⟨(k:Int),(n:Int)⟩).Af.First),i6 ((Ae (win y24.A8 82 16384) 420 ⟨(k:Int),(n:Int)⟩).Af.Second),i6 ((Ae true 422 ⟨(k:Int),(n:Int)⟩).e),i6 ((Ae true 422 ⟨(k:Int),(n:Int)⟩).Af.First),i6 ((Ae true 422 ⟨(k:Int),(n:Int)⟩).Af.Second)] 111),(Vh y24 k n b150)]⟩ _ _ _
    refine Cc [0,1,2,3,5] [(Ak w),(Bj z c),(Bv z),(BD y24 n15),(Vh y24 k n b150)] rfl rfl ?_
    have e0:gd (DX c k).xs n=y24:=(by rw[hy24,hy8])
    have eA:EY c k n=(AV [(Ae false 419 ⟨(k:Int),(n:Int)⟩),(Ae (win y24.A8 82 16384) 420 ⟨(k:Int),(n:Int)⟩),(Ae true 422 ⟨(k:Int),(n:Int)⟩)]):=(by unfold EY Pz;simp only[e0];simp[h27,h109])
    refine BR [1,2,4,5,7,8,24,25,26] [(1,Ac k),(2,pt z),(AU z),(Bg k n c),(Bi n15),(8,pt b150),(Bh b17 o18 y8),(Bc y8),(26,Ac n)] ?_
    refine Cj (fun a w' hs=>⟨n148,b150,by omega,(by(try dsimp only[Vh,Bv,BD,Bj,I7,Lj,NI,NM,Nu,Bh,Bc,AU,Jt,Bg,Bi]at hs ⊢);rw[eA];exact hs)⟩)
   rintro a w' ⟨n25,b8,hn26,hs⟩
   refine(?_:G Tryd.prog 85 [(1,Ac k),(2,pt z),(AU z),(Bg k n c),(Bi n15),(8,pt b8),(Bh b17 o18 y8),(Bc y8),(26,Ac n)] [] ⟨w,n25,[(Ak w),(Bj z c),(Bv z),(BD y24 n15),(bk b8 (Ai.arr (EY c k n)) 111)]⟩ _ _ _) a w' hs
   clear hs a w'
   refine DC <| DC ?_
   by_cases h186:(((EY c k n).e:Int)==(0:Int)&&((((EY c k n).Af.First:Int)==(0:Int)&&(((EY c k n).Af.Second:Int)==(0:Int)&&true))&&true))=true
   ·have hbd0:=Ru (EI.1 h186);rw[show gd (DX c k).xs n=y24 from(by rw[hy24,hy8])]at hbd0
    refine A7 12 0 [0] [[(an 3 4),(oa [.via 0 (i6 0),.via 0 (i6 0),.via 0 (i6 0)]),⟨.seq true,none⟩],[o0,o0,(a1 3),o0,(a1 3),(ov (i6 (y24.BA+y24.A8))),(ov (i6 ((sumW (DX c k).xs n)+(y24.BA+y24.A8)))),o0],[(ov (i6 ((n+1:Nat):Int))),o0]] [Qb b8,Qb b8,Qb b8,Old w 0 0 (i6 0),Old w 0 1 (i6 0),Old w 0 2 (i6 0),(((EY c k n).e:Int)==(0:Int)&&((((EY c k n).Af.First:Int)==(0:Int)&&(((EY c k n).Af.Second:Int)==(0:Int)&&true))&&true))=true,Qb n15,Qb n15,Wr ((y24.BA:Int)+y24.A8) (y24.BA+y24.A8),Wr ((sumW (DX c k).xs n:Int)+(y24.BA+y24.A8)) ((sumW (DX c k).xs n)+(y24.BA+y24.A8)),Wr ((n:Int)+1) (((n+1:Nat):Int))] [(1,Ac k),(2,pt z),(AU z),(5,i6 ((sumW (DX c k).xs n)+(y24.BA+y24.A8))),(Bh b17 o18 y8),(Bc y8),(26,i6 ((n+1:Nat):Int))] rfl ⟨rfl,rfl,rfl,Aq (hL.2 0 _ rfl),Aq (hL.2 1 _ rfl),Aq (hL.2 2 _ rfl),h186,rfl,rfl,CU,CU,CU,Ag⟩ ?_
    refine Cc [0,1,2] [(Ak w),(Bj z c),(Bv z)] rfl rfl ?_
    have e0:gd (DX c k).xs n=y24:=(by rw[hy24,hy8])
    have hnn:=EI.1 h186
    have hbd:=Ru hnn
    have eS:=Zd (DX c k).xs n
    rw[e0]at hbd eS
    have hss:0≤sumW (DX c k).xs (n+1)∧sumW (DX c k).xs (n+1)≤((n+1:Nat):Int)*32768:=(by rw[eS];omega)
    refine Fj [1,2,4,5,24,25,26] [(1,Ac k),(2,pt z),(AU z),(5,i6 ((sumW (DX c k).xs n)+(y24.BA+y24.A8))),(Jt y8),(Bc y8),(26,i6 ((n+1:Nat):Int))] (by(try dsimp only[Bv,BD,Bj,Bh,Bc,AU,Jt,Bg,Bi]);simp only[ha19];rfl) ?_
    refine Cj (fun a w' hs=>⟨y8.xs.length - (n+1),by omega,n25,(n+1),rfl,by omega,by omega,Gj hf hnn,hss,(by(try dsimp only[Bv,BD,Bj,Bh,Bc,AU,Jt,Bg,Bi]at hs ⊢);rw[eS];exact hs)⟩)
   refine q_c 9 0 [1] [[(an 3 4),(oa [.via 0 (i6 0),.via 0 (i6 0),.via 0 (i6 0)]),⟨.seq false,none⟩],[(an 3 4),(an 3 2)]] [Qb b8,Qb b8,Qb b8,Old w 0 0 (i6 0),Old w 0 1 (i6 0),Old w 0 2 (i6 0),(((EY c k n).e:Int)==(0:Int)&&((((EY c k n).Af.First:Int)==(0:Int)&&(((EY c k n).Af.Second:Int)==(0:Int)&&true))&&true))=false,Qb b8,Qb b8,Qb b8,Qb (z+1),Qb (z+1),Qb (z+1)] [(AU z)] ⟨w,n25,[(Ak w),(Bj z c),(bk (z+1) (Ai.arr (EY c k n)) 111),(BD y24 n15),(bk b8 (Ai.arr (EY c k n)) 111)]⟩ rfl ⟨rfl,rfl,rfl,Aq (hL.2 0 _ rfl),Aq (hL.2 1 _ rfl),Aq (hL.2 2 _ rfl),(Bool.eq_false_iff.2 h186),rfl,rfl,rfl,rfl,rfl,rfl,Ag⟩ ?_
   refine AX [.at 2,.at 2,.at 2] [Qb (z+1),Qb (z+1),Qb (z+1)] (.agg #[i6 ((EY c k n).e),i6 ((EY c k n).Af.First),i6 ((EY c k n).Af.Second)]) ⟨rfl,rfl,rfl,Ag⟩ ?_
   intro w187 hw187
   exact⟨congrArg (fun t=>Ending.returned (Value.agg (Ai.arr t))) (coreQ_b (by have e1:DX c k=y8:=hy8.symm;rw[e1];exact h12) hf (by have e1:DX c k=y8:=hy8.symm;rw[e1];omega) (fun e=>h186 (EI.2 e))).symm,BC hw187⟩
  refine A7 11 0 [0] [[oF]] [BF ((n:Int)<(y8.xs.length:Int))] [(1,Ac k),(2,pt z),(AU z),(Bg k n c),(Jt y8),(Bc y8),(26,Ac n),(27,.bool false)] rfl ⟨bf,Ag⟩ ?_
  by_cases h188:(sumW (DX c k).xs n:Int)=c.FQ
  ·refine DN 7 [0,1,2] [(Ak w),(Bj z c),(Bv z)] rfl rfl ?_
   refine Jj [.tk 0 o0,.tk 1 o0,.tk 2 (a1 1),.tk 3 oT,.tk 4 o0,.cl 5 (.agg #[(Ac k),i6 (-1)]),.cl 6 (.agg (Ai.arr (Ae true 421 ⟨(k:Int), -1⟩)))] [4,84] [(93,#[(Ac k)],.agg #[(Ac k),i6 (-1)]),(62,#[.bool true,i6 421,.agg #[(Ac k),i6 (-1)]],.agg (Ai.arr (Ae true 421 ⟨(k:Int), -1⟩)))] (Dj 7 1) [Qb z,ET (sumW (DX c k).xs n) c.FQ] [(AU z),(84,.agg (Ai.arr (Ae true 421 ⟨(k:Int), -1⟩)))] [0,1,2] ⟨rfl,et,Ag⟩ ⟨fun w189 hw189=>Cm w189 (k:Int),fun w190 hw190=>AQ w190 (hL.ext (hw190.ext rfl)) true 421 (k:Int) (-1),Ag⟩ (fun n191 hn192 => ?_)
   replace hn192:n15≤n191:=hn192
   refine Bo 7 ?_
   refine Bq (an 3 2) [4] [Qb (z+1),Qb (z+1),Qb (z+1)] [(AU z)] ⟨w,n191,[(Ak w),(Bj z c),(.blk (z+1) (.cells (Ai.arr (Ae true 421 ⟨(k:Int), -1⟩)) 111 (0,0)) true)]⟩ [] ⟨rfl,rfl,rfl,Ag⟩ (.inl rfl) ?_
   refine D8 8 [0,1,2] [(Ak w),(Bj z c),(.blk (z+1) (.cells (Ai.arr (Ae true 421 ⟨(k:Int), -1⟩)) 111 (0,0)) true)] rfl rfl ?_
   refine CV ?_
   refine BR [4] [(AU z)] ?_
   refine GZ <| JA <| AX [.at 2,.at 2,.at 2] [Qb (z+1),Qb (z+1),Qb (z+1)] (.agg #[i6 ((Ae true 421 ⟨(k:Int), -1⟩).e),i6 ((Ae true 421 ⟨(k:Int), -1⟩).Af.First),i6 ((Ae true 421 ⟨(k:Int), -1⟩).Af.Second)]) ⟨rfl,rfl,rfl,Ag⟩ ?_
   intro w193 hw193
   exact⟨congrArg (fun t=>Ending.returned (Value.agg (Ai.arr t))) ((XG (by have e1:DX c k=y8:=hy8.symm;rw[e1];exact h12) hf (by have e1:DX c k=y8:=hy8.symm;rw[e1];omega)).trans (by first | rw[decide_eq_true (by assumption)] | rw[decide_eq_false (by assumption)])).symm,BC hw193⟩
  refine DN 7 [0,1,2] [(Ak w),(Bj z c),(Bv z)] rfl rfl ?_
  refine Jj [.tk 0 o0,.tk 1 o0,.tk 2 (a1 1),.tk 3 oF,.tk 4 o0,.cl 5 (.agg #[(Ac k),i6 (-1)]),.cl 6 (.agg (Ai.arr (Ae false 421 ⟨(k:Int), -1⟩)))] [4,84] [(93,#[(Ac k)],.agg #[(Ac k),i6 (-1)]),(62,#[.bool false,i6 421,.agg #[(Ac k),i6 (-1)]],.agg (Ai.arr (Ae false 421 ⟨(k:Int), -1⟩)))] (Dj 7 1) [Qb z,EF (sumW (DX c k).xs n) c.FQ] [(AU z),(84,.agg (Ai.arr (Ae false 421 ⟨(k:Int), -1⟩)))] [0,1,2] ⟨rfl,ef,Ag⟩ ⟨fun w194 hw194=>Cm w194 (k:Int),fun w195 hw195=>AQ w195 (hL.ext (hw195.ext rfl)) false 421 (k:Int) (-1),Ag⟩ (fun n196 hn197 => ?_)
  replace hn197:n15≤n196:=hn197
  refine Bo 7 ?_
  refine Bq (an 3 2) [4] [Qb (z+1),Qb (z+1),Qb (z+1)] [(AU z)] ⟨w,n196,[(Ak w),(Bj z c),(.blk (z+1) (.cells (Ai.arr (Ae false 421 ⟨(k:Int), -1⟩)) 111 (0,0)) true)]⟩ [] ⟨rfl,rfl,rfl,Ag⟩ (.inl rfl) ?_
  refine D8 8 [0,1,2] [(Ak w),(Bj z c),(.blk (z+1) (.cells (Ai.arr (Ae false 421 ⟨(k:Int), -1⟩)) 111 (0,0)) true)] rfl rfl ?_
  refine CV ?_
  refine BR [4] [(AU z)] ?_
  refine GZ <| JA <| AX [.at 2,.at 2,.at 2] [Qb (z+1),Qb (z+1),Qb (z+1)] (.agg #[i6 ((Ae false 421 ⟨(k:Int), -1⟩).e),i6 ((Ae false 421 ⟨(k:Int), -1⟩).Af.First),i6 ((Ae false 421 ⟨(k:Int), -1⟩).Af.Second)]) ⟨rfl,rfl,rfl,Ag⟩ ?_
  intro w198 hw198
  exact⟨congrArg (fun t=>Ending.returned (Value.agg (Ai.arr t))) ((XG (by have e1:DX c k=y8:=hy8.symm;rw[e1];exact h12) hf (by have e1:DX c k=y8:=hy8.symm;rw[e1];omega)).trans (by first | rw[decide_eq_true (by assumption)] | rw[decide_eq_false (by assumption)])).symm,BC hw198⟩
 have hd199:=Jn h12
 refine BQ 5 1 [1] [[(ov (.bool true))],[o0]] [Value.bool (!(win (y8.xs.length:Int) 1 16))=Value.bool true] [(AU z),(17,Ac k)] rfl ⟨by simp[h12],Ag⟩ ?_
 refine Bz 93 #[(Ac k)] (some 18) (.agg #[(Ac k),i6 (-1)]) (fun w200 hw200=>Cm w200 (k:Int)) (fun n201 (hn202:n10≤n201) => ?_)
 refine FD 3 0 [] [[o0,(an 3 2)]] [Qb (z+1),Qb (z+1),Qb (z+1)] [(AU z)] ⟨w,n201,[(Ak w),(Bj z c),(bk (z+1) #[i6 418,Ac k,i6 (-1)] 111)]⟩ rfl ⟨rfl,rfl,rfl,Ag⟩ ?_
 refine AX [.at 2,.at 2,.at 2] [Qb (z+1),Qb (z+1),Qb (z+1)] (.agg #[i6 418,Ac k,i6 (-1)]) ⟨rfl,rfl,rfl,Ag⟩ ?_
 intro w203 hw203
 exact⟨congrArg (fun t=>Ending.returned (Value.agg (Ai.arr t))) (coreQ_a (by have e1:DX c k=y8:=hy8.symm;rw[e1];exact h12)).symm,BC hw203⟩
end Go.Proofs.YtjdmhijaanmccaaDoor.Ad
namespace Go.Proofs.YtjdmhijaanmccaaDoor.Ly
open Go Go.Proofs.YtjdmhijaanmccaaDoor.Eng Go.Proofs.YtjdmhijaanmccaaDoor.Mem
set_option linter.unusedSimpArgs false
set_option linter.unusedVariables false
set_option maxRecDepth 100000
def Ov(g:BJ):Bool:=decide (0≤g.C9∧g.C9≤256∧1≤g.BG∧g.BG≤256 - g.C9)
def Sj(n:Nat)(q:DF):Bool:=decide (0≤q.Channel∧q.Channel<n)
def EN(n:Nat)(x:Ar):Bool:=decide (x.Ah.xs.length≤8)&&decide (x.AB.xs.length≤8)&&x.Ah.xs.all Ov&&x.AB.xs.all (Sj n)
theorem Qm{α:Type}[Inhabited α]{p:α→Bool}{xs:List α}{k:Nat}(hk:k<xs.length)(h:p (gd xs k)=false):xs.all p=false:=by
 rw[List.all_eq_false]
 refine⟨xs[k],List.getElem_mem hk, ?_⟩
 rw[Gq hk]at h
 simpa using h
theorem Vq{α:Type}[Inhabited α]{p:α→Bool}{xs:List α}(h:∀ i,i<xs.length→p (gd xs i)=true):xs.all p=true:=by
 rw[List.all_eq_true]
 intro y hy
 obtain⟨i,hi,rfl⟩:=List.getElem_of_mem hy
 have:=h i hi
 rwa [Gq hi]at this
theorem upto{p:Nat→Prop}{k:Nat}(h:∀ i,i<k→p i)(hk:p k):∀ i,i<k+1→p i:=fun i hi=>by
 by_cases e:i=k
 ·subst e;exact hk
 exact h i (by omega)
section
variable (z:Nat)(x:Ar)(c:Aj)(b8 o9:Nat)
abbrev IE:=bk (z+1) (Ar.arr x) 52
abbrev IK:=bk z (Aj.arr c) 26
abbrev KX:CO:=(20,.slice (some ⟨b8,o9,none⟩) x.Ah.xs.length x.Ah.cap)
abbrev JR:CO:=(20,.slice x.Ah.a x.Ah.xs.length x.Ah.cap)
abbrev KR:CO:=(49,.slice x.AB.a x.AB.xs.length x.AB.cap)
abbrev IL:=(21,Ac x.Ah.xs.length)
abbrev Jy:=(50,Ac x.AB.xs.length)
abbrev IA:=(3,pt (z+1))
end
theorem Oh(w:World)(c:Aj)(x:Ar)(hc:Aj.ok Any w c)(hx:Ar.ok Any w x):Calls Tryd.prog 76 #[.agg (Aj.arr c),.agg (Ar.arr x)] w fun e w'=>e = .returned (.bool (EN c.Am.xs.length x))∧CJ (fun _=>False) w w':=by
 obtain⟨z,hz⟩:∃ z,z=w.heap.size:=⟨_,rfl⟩
 refine BP (args:=[.agg (Aj.arr c),.agg (Ar.arr x)]) 67 ⟨w,z,[(Ak w)]⟩ Tryd.func76 rfl (by kernel_rfl) (by kernel_rfl) (EQ hz) ?_
 refine DZ [0,1] [(0,.agg (Aj.arr c)),(1,.agg (Ar.arr x))] ?_
 refine q_c 6 0 [] [[o0,o0,o0]] [] [(2,pt z),(IA z)] ⟨w,z+2,[(Ak w),(IK z c),(IE z x)]⟩ rfl Ag ?_
 by_cases h1:(8:Int)<(x.Ah.xs.length:Int)
 ·refine A7 9 0 [1] [[o0,(a1 2),o0,oT,o0,o0],[o0]] [Qb (z+1),BT ((x.Ah.xs.length:Int) > 8)] [(4,.bool false)] rfl ⟨rfl,bt,Ag⟩ ?_
  refine AX [] [] (.bool false) Ag ?_
  intro w2 hw2
  refine⟨congrArg (fun b=>Ending.returned (Value.bool b)) (Eq.symm (?_:EN c.Am.xs.length x=false)),BC hw2⟩
  unfold EN
  first
   | (have e1:decide (x.Ah.xs.length≤8)=false:=decide_eq_false (by omega));simp[e1]
   | (have e1:decide (x.AB.xs.length≤8)=false:=decide_eq_false (by omega));simp[e1]
 by_cases h3:(8:Int)<(x.AB.xs.length:Int)
 ·refine A7 9 0 [1] [[o0,(a1 2),o0,oF,o0,o0,(a1 2),o0,oT,o0],[o0]] [Qb (z+1),BF ((x.Ah.xs.length:Int) > 8),Qb (z+1),BT ((x.AB.xs.length:Int) > 8)] [(4,.bool false)] rfl ⟨rfl,bf,rfl,bt,Ag⟩ ?_
  refine AX [] [] (.bool false) Ag ?_
  intro w4 hw4
  refine⟨congrArg (fun b=>Ending.returned (Value.bool b)) (Eq.symm (?_:EN c.Am.xs.length x=false)),BC hw4⟩
  unfold EN
  first
   | (have e1:decide (x.Ah.xs.length≤8)=false:=decide_eq_false (by omega));simp[e1]
   | (have e1:decide (x.AB.xs.length≤8)=false:=decide_eq_false (by omega));simp[e1]
 refine A7 12 0 [0] [[o0,(a1 2),o0,oF,o0,o0,(a1 2),o0,oF,o0],[o0,(a1 2),o0,o0]] [Qb (z+1),BF ((x.Ah.xs.length:Int) > 8),Qb (z+1),BF ((x.AB.xs.length:Int) > 8),Qb (z+1)] [(2,pt z),(IA z),(JR x),(IL x),(22,i6 0)] rfl ⟨rfl,bf,rfl,bf,rfl,Ag⟩ ?_
 refine DW (fun m a w'=>∃ (n6:Nat) (k:Nat),m=x.Ah.xs.length - k∧z+2≤n6∧(k≤x.Ah.xs.length)∧(∀ i,i<k→Ov (gd x.Ah.xs i)=true)∧St 67 [(2,pt z),(IA z),(JR x),(IL x),(22,Ac k)] [] ⟨w,n6,[(Ak w),(IK z c),(IE z x)]⟩ a w') (x.Ah.xs.length - 0) ?_ ?_
 ·intro a w' hs;exact⟨(z+2),0,rfl,Nat.le_refl _,Nat.zero_le _,fun i hi=>absurd hi (Nat.not_lt_zero i),hs⟩
 rintro m a w' ⟨n6,k,rfl,hn5,hkk,hr,hs⟩
 refine(?_:G Tryd.prog 67 [(2,pt z),(IA z),(JR x),(IL x),(22,Ac k)] [] ⟨w,n6,[(Ak w),(IK z c),(IE z x)]⟩ _ _ _) a w' hs
 clear hs a w'
 refine DC ?_
 by_cases h7:(k:Int)<(x.Ah.xs.length:Int)
 ·refine A7 10 0 [1] [[oT]] [BT ((k:Int)<(x.Ah.xs.length:Int))] [(2,pt z),(IA z),(JR x),(IL x),(22,Ac k),(23,.bool true)] rfl ⟨bt,Ag⟩ ?_
  obtain⟨b8,o9,ha10,hF12,hc11⟩:=(hx.Ah).1.all (show 0<x.Ah.xs.length by omega)
  replace ha10:x.Ah.a=some ⟨b8,o9,none⟩:=ha10
  refine IM [(2,pt z),(IA z),(KX x b8 o9),(IL x),(22,Ac k),(23,.bool true)] (by(try dsimp only[IE,IK,KX,JR,IL,IA]);simp only[ha10]) ?_
  have hc13:=hc11 k (show k<x.Ah.xs.length by omega)
  have he14:=(hx.Ah).2 k (show k<x.Ah.xs.length by omega)
  obtain⟨y15,hy15⟩:∃ y_,y_=gd x.Ah.xs k:=⟨_,rfl⟩
  rw[←hy15]at he14 hc13
  refine q_c 4 0 [] [[(oi k),(ol 0 (BJ.arr y15)),o0,(an 4 3)]] [Ed k,k<x.Ah.xs.length,Dt,Ie w b8 (o9+k*4) (BJ.arr y15),Qb n6,Qb n6,Qb n6,Qb n6] [(2,pt z),(IA z),(KX x b8 o9),(IL x),(22,Ac k),(6,pt n6)] ⟨w,n6+1,[(Ak w),(IK z c),(IE z x),(bk n6 (BJ.arr y15) 103)]⟩ rfl ⟨rfl,(by omega),rfl,EL hc13,rfl,rfl,rfl,rfl,Ag⟩ ?_
  by_cases h16:(y15.C9:Int)<0
  ·refine A7 9 0 [1] [[o0,(a1 3),oT,o0,o0,o0,o0,o0,o0],[o0]] [Qb n6,BT ((y15.C9:Int)<0)] [(4,.bool false)] rfl ⟨rfl,bt,Ag⟩ ?_
   refine AX [] [] (.bool false) Ag ?_
   intro w17 hw17
   refine⟨congrArg (fun b=>Ending.returned (Value.bool b)) (Eq.symm (?_:EN c.Am.xs.length x=false)),BC hw17⟩
   unfold EN
   have e1:x.Ah.xs.all Ov=false:=Qm (k:=k) (by omega) (by rw[←hy15];exact decide_eq_false (by omega))
   simp[e1]
  by_cases h18:(256:Int)<y15.C9
  ·refine A7 9 0 [1] [[o0,(a1 3),oF,o0,o0,(a1 3),oT,o0,o0,o0,o0,o0],[o0]] [Qb n6,BF ((y15.C9:Int)<0),Qb n6,BT ((y15.C9:Int) > 256)] [(4,.bool false)] rfl ⟨rfl,bf,rfl,bt,Ag⟩ ?_
   refine AX [] [] (.bool false) Ag ?_
   intro w19 hw19
   refine⟨congrArg (fun b=>Ending.returned (Value.bool b)) (Eq.symm (?_:EN c.Am.xs.length x=false)),BC hw19⟩
   unfold EN
   have e1:x.Ah.xs.all Ov=false:=Qm (k:=k) (by omega) (by rw[←hy15];exact decide_eq_false (by omega))
   simp[e1]
  by_cases h20:(y15.BG:Int)<1
  ·refine A7 9 0 [1] [[o0,(a1 3),oF,o0,o0,(a1 3),oF,o0,o0,o0,(a1 3),oT,o0,o0,o0],[o0]] [Qb n6,BF ((y15.C9:Int)<0),Qb n6,BF ((y15.C9:Int) > 256),Qb n6,BT ((y15.BG:Int)<1)] [(4,.bool false)] rfl ⟨rfl,bf,rfl,bf,rfl,bt,Ag⟩ ?_
   refine AX [] [] (.bool false) Ag ?_
   intro w21 hw21
   refine⟨congrArg (fun b=>Ending.returned (Value.bool b)) (Eq.symm (?_:EN c.Am.xs.length x=false)),BC hw21⟩
   unfold EN
   have e1:x.Ah.xs.all Ov=false:=Qm (k:=k) (by omega) (by rw[←hy15];exact decide_eq_false (by omega))
   simp[e1]
  by_cases h22:(256 - y15.C9:Int)<y15.BG
  ·refine A7 9 0 [1] [[o0,(a1 3),oF,o0,o0,(a1 3),oF,o0,o0,o0,(a1 3),oF,o0,o0,o0,(a1 3),o0,(a1 3),(ov (i6 (256 - y15.C9))),oT,o0],[o0]] [Qb n6,BF ((y15.C9:Int)<0),Qb n6,BF ((y15.C9:Int) > 256),Qb n6,BF ((y15.BG:Int)<1),Qb n6,Qb n6,Wr ((256:Int) - y15.C9) (256 - y15.C9),BT ((y15.BG:Int) > (256 - y15.C9))] [(4,.bool false)] rfl ⟨rfl,bf,rfl,bf,rfl,bf,rfl,rfl,CU,bt,Ag⟩ ?_
   refine AX [] [] (.bool false) Ag ?_
   intro w23 hw23
   refine⟨congrArg (fun b=>Ending.returned (Value.bool b)) (Eq.symm (?_:EN c.Am.xs.length x=false)),BC hw23⟩
   unfold EN
   have e1:x.Ah.xs.all Ov=false:=Qm (k:=k) (by omega) (by rw[←hy15];exact decide_eq_false (by omega))
   simp[e1]
  refine A7 9 0 [0] [[o0,(a1 3),oF,o0,o0,(a1 3),oF,o0,o0,o0,(a1 3),oF,o0,o0,o0,(a1 3),o0,(a1 3),(ov (i6 (256 - y15.C9))),oF,o0],[(ov (i6 ((k+1:Nat):Int))),o0]] [Qb n6,BF ((y15.C9:Int)<0),Qb n6,BF ((y15.C9:Int) > 256),Qb n6,BF ((y15.BG:Int)<1),Qb n6,Qb n6,Wr ((256:Int) - y15.C9) (256 - y15.C9),BF ((y15.BG:Int) > (256 - y15.C9)),Wr ((k:Int)+1) (((k+1:Nat):Int))] [(2,pt z),(IA z),(KX x b8 o9),(IL x),(22,i6 ((k+1:Nat):Int))] rfl ⟨rfl,bf,rfl,bf,rfl,bf,rfl,rfl,CU,bf,CU,Ag⟩ ?_
  refine Cc [0,1,2] [(Ak w),(IK z c),(IE z x)] rfl rfl ?_
  refine Fj [2,3,20,21,22] [(2,pt z),(IA z),(JR x),(IL x),(22,i6 ((k+1:Nat):Int))] (by(try dsimp only[IE,IK,KX,JR,IL,IA]);simp only[ha10];rfl) ?_
  refine Cj (fun a w' hs=>⟨x.Ah.xs.length - (k+1),by omega,(n6+1),(k+1),rfl,by omega,by omega,upto hr (by rw[←hy15];exact decide_eq_true (by omega)),hs⟩)
 refine A7 16 0 [0] [[oF],[o0,(a1 2),o0,o0]] [BF ((k:Int)<(x.Ah.xs.length:Int)),Qb (z+1)] [(2,pt z),(KR x),(Jy x),(51,i6 0)] rfl ⟨bf,rfl,Ag⟩ ?_
 refine DW (fun m a w'=>∃ (n25:Nat) (j:Nat),m=x.AB.xs.length - j∧n6≤n25∧(j≤x.AB.xs.length)∧(∀ i,i<j→Sj c.Am.xs.length (gd x.AB.xs i)=true)∧St 67 [(2,pt z),(KR x),(Jy x),(51,Ac j)] [] ⟨w,n25,[(Ak w),(IK z c),(IE z x)]⟩ a w') (x.AB.xs.length - 0) ?_ ?_
 ·intro a w' hs;exact⟨n6,0,rfl,Nat.le_refl _,Nat.zero_le _,fun i hi=>absurd hi (Nat.not_lt_zero i),hs⟩
 rintro m a w' ⟨n25,j,rfl,hn24,hkj,hp,hs⟩
 refine(?_:G Tryd.prog 67 [(2,pt z),(KR x),(Jy x),(51,Ac j)] [] ⟨w,n25,[(Ak w),(IK z c),(IE z x)]⟩ _ _ _) a w' hs
 clear hs a w'
 refine DC ?_
 by_cases h26:(j:Int)<(x.AB.xs.length:Int)
 ·refine A7 10 0 [1] [[oT]] [BT ((j:Int)<(x.AB.xs.length:Int))] [(2,pt z),(KR x),(Jy x),(51,Ac j),(52,.bool true)] rfl ⟨bt,Ag⟩ ?_
  obtain⟨b27,o28,ha29,hF31,hc30⟩:=(hx.AB).1.all (show 0<x.AB.xs.length by omega)
  replace ha29:x.AB.a=some ⟨b27,o28,none⟩:=ha29
  refine IM [(2,pt z),(49,.slice (some ⟨b27,o28,none⟩) x.AB.xs.length x.AB.cap),(Jy x),(51,Ac j),(52,.bool true)] (by(try dsimp only[IE,IK,KX,JR,KR,IL,Jy,IA]);simp only[ha29]) ?_
  have hc32:=hc30 j (show j<x.AB.xs.length by omega)
  have he33:=(hx.AB).2 j (show j<x.AB.xs.length by omega)
  obtain⟨y34,hy34⟩:∃ y_,y_=gd x.AB.xs j:=⟨_,rfl⟩
  rw[←hy34]at he33 hc32
  refine q_c 4 0 [] [[(oi j),(ol 0 (DF.arr y34)),o0,(an 2 3)]] [Ed j,j<x.AB.xs.length,Dt,Ie w b27 (o28+j*2) (DF.arr y34),Qb n25,Qb n25] [(2,pt z),(49,.slice (some ⟨b27,o28,none⟩) x.AB.xs.length x.AB.cap),(Jy x),(51,Ac j),(8,pt n25)] ⟨w,n25+1,[(Ak w),(IK z c),(IE z x),(bk n25 (DF.arr y34) 127)]⟩ rfl ⟨rfl,(by omega),rfl,EL hc32,rfl,rfl,Ag⟩ ?_
  by_cases h35:(y34.Channel:Int)<0
  ·refine A7 9 0 [1] [[o0,(a1 3),oT,o0,o0],[o0]] [Qb n25,BT ((y34.Channel:Int)<0)] [(4,.bool false)] rfl ⟨rfl,bt,Ag⟩ ?_
   refine AX [] [] (.bool false) Ag ?_
   intro w36 hw36
   refine⟨congrArg (fun b=>Ending.returned (Value.bool b)) (Eq.symm (?_:EN c.Am.xs.length x=false)),BC hw36⟩
   unfold EN
   have e1:x.AB.xs.all (Sj c.Am.xs.length)=false:=Qm (k:=j) (by omega) (by rw[←hy34];exact decide_eq_false (by omega))
   simp[e1]
  by_cases h37:(y34.Channel:Int)<(c.Am.xs.length:Int)
  ·refine A7 9 0 [0] [[o0,(a1 3),oF,o0,o0,(a1 3),o0,(a1 1),o0,oF,o0],[(ov (i6 ((j+1:Nat):Int))),o0]] [Qb n25,BF ((y34.Channel:Int)<0),Qb n25,Qb z,BF ((y34.Channel:Int)≥(c.Am.xs.length:Int)),Wr ((j:Int)+1) (((j+1:Nat):Int))] [(2,pt z),(49,.slice (some ⟨b27,o28,none⟩) x.AB.xs.length x.AB.cap),(Jy x),(51,i6 ((j+1:Nat):Int))] rfl ⟨rfl,bf,rfl,rfl,bf,CU,Ag⟩ ?_
   refine Cc [0,1,2] [(Ak w),(IK z c),(IE z x)] rfl rfl ?_
   refine Fj [2,49,50,51] [(2,pt z),(KR x),(Jy x),(51,i6 ((j+1:Nat):Int))] (by(try dsimp only[IE,IK,JR,KR,IL,Jy,IA]);simp only[ha29];rfl) ?_
   refine Cj (fun a w' hs=>⟨x.AB.xs.length - (j+1),by omega,(n25+1),(j+1),rfl,by omega,by omega,upto hp (by rw[←hy34];exact decide_eq_true (by omega)),hs⟩)
  refine A7 9 0 [1] [[o0,(a1 3),oF,o0,o0,(a1 3),o0,(a1 1),o0,oT,o0],[o0]] [Qb n25,BF ((y34.Channel:Int)<0),Qb n25,Qb z,BT ((y34.Channel:Int)≥(c.Am.xs.length:Int))] [(4,.bool false)] rfl ⟨rfl,bf,rfl,rfl,bt,Ag⟩ ?_
  refine AX [] [] (.bool false) Ag ?_
  intro w38 hw38
  refine⟨congrArg (fun b=>Ending.returned (Value.bool b)) (Eq.symm (?_:EN c.Am.xs.length x=false)),BC hw38⟩
  unfold EN
  have e1:x.AB.xs.all (Sj c.Am.xs.length)=false:=Qm (k:=j) (by omega) (by rw[←hy34];exact decide_eq_false (by omega))
  simp[e1]
 refine A7 15 0 [0] [[oF],[o0]] [BF ((j:Int)<(x.AB.xs.length:Int))] [(4,.bool true)] rfl ⟨bf,Ag⟩ ?_
 refine AX [] [] (.bool true) Ag ?_
 intro w39 hw39
 refine⟨congrArg (fun b=>Ending.returned (Value.bool b)) (Eq.symm (?_:EN c.Am.xs.length x=true)),BC hw39⟩
 have e1:x.Ah.xs.all Ov=true:=Vq (fun i hi=>hr i (by omega))
 have e2:x.AB.xs.all (Sj c.Am.xs.length)=true:=Vq (fun i hi=>hp i (by omega))
 simp only[EN,e1,e2,Bool.and_true,Bool.and_eq_true,decide_eq_true_eq]
 omega
def GV(h:BH):Int:=if h.Words<1∨h.Words > 16 then 0 else if h.Kind=1 then h.Words else if h.Kind=2∧1≤h.Dq∧h.Dq≤8 then h.Dq*(1+h.Words)else 0
def BO(h:BH):Int:=if GV h=0 then 0 else if h.Kind=1 then 2+h.Words else 1+GV h
def portOf(h:BH):Int:=if GV h=0 then 0 else 3+GV h
theorem Tq(h:BH):0≤GV h∧GV h≤136:=by
 unfold GV
 split
 ·omega
 split
 ·omega
 split
 ·rename_i h1 h2 h3
  have hd:h.Dq=1∨h.Dq=2∨h.Dq=3∨h.Dq=4∨h.Dq=5∨h.Dq=6∨h.Dq=7∨h.Dq=8:=by omega
  rcases hd with e | e | e | e | e | e | e | e <;> rw[e] <;> omega
 omega
theorem Q5{h:BH}(h1:h.Words<1∨h.Words > 16):GV h=0:=by unfold GV;rw[if_pos h1]
theorem body_b{h:BH}(h1:¬ h.Words<1)(h2:¬ 16<h.Words)(h3:h.Kind=1):GV h=h.Words:=by unfold GV;rw[if_neg (by omega),if_pos h3]
theorem body_c{h:BH}(h1:¬ h.Words<1)(h2:¬ 16<h.Words)(h3:¬ h.Kind=1)(h4:h.Kind=2)(h5:1≤h.Dq)(h6:h.Dq≤8):GV h=h.Dq*(1+h.Words):=by unfold GV;rw[if_neg (by omega),if_neg h3,if_pos ⟨h4,h5,h6⟩]
theorem Qy{h:BH}(h1:¬ h.Words<1)(h2:¬ 16<h.Words)(h3:¬ h.Kind=1)(h4:¬ (h.Kind=2∧1≤h.Dq∧h.Dq≤8)):GV h=0:=by unfold GV;rw[if_neg (by omega),if_neg h3,if_neg h4]
theorem body_w(h:BH):GV h=0∨(1≤h.Words∧h.Words≤16):=by
 unfold GV;split
 ·exact .inl rfl
 right;omega
theorem Jh{h:BH}(h1:GV h=0):0=BO h:=by unfold BO;rw[if_pos h1]
theorem O6{h:BH}(h1:¬ h.Words<1)(h2:¬ 16<h.Words)(h3:h.Kind=1):2+h.Words=BO h:=by unfold BO;rw[body_b h1 h2 h3,if_neg (by omega),if_pos h3]
theorem O9{h:BH}(h1:¬ h.Words<1)(h2:¬ 16<h.Words)(h3:¬ h.Kind=1)(h4:h.Kind=2)(h5:1≤h.Dq)(h6:h.Dq≤8):1+h.Dq*(1+h.Words)=BO h:=by
 unfold BO;rw[body_c h1 h2 h3 h4 h5 h6,if_neg ?_,if_neg h3]
 have:=Int.mul_pos (show 0<h.Dq by omega) (show 0<1+h.Words by omega)
 omega
theorem Qs(h:BH):0≤BO h∧BO h≤137:=by
 have hb:=Tq h
 unfold BO
 split
 ·omega
 split
 ·rename_i h1 h2
  unfold GV at h1
  split at h1
  ·exact absurd rfl h1
  omega
 omega
theorem VL(h:BH):0≤portOf h∧portOf h≤139:=by
 have hb:=Tq h
 unfold portOf
 split <;> omega
theorem IU(h:BH):BO h=0↔portOf h=0:=by
 have hb:=Tq h
 unfold BO portOf
 split
 ·simp
 split
 ·rename_i h1 h2
  unfold GV at h1 hb
  constructor
  ·intro e
   split at h1
   ·exact absurd rfl h1
   omega
  intro e;exfalso;unfold GV at e;omega
 omega
theorem Xe{h:BH}(h1:¬ BO h=0)(h2:h.Kind=1):BO h+1=portOf h:=by
 unfold BO portOf at *
 split at h1
 ·exact absurd rfl h1
 rename_i hb
 rw[if_neg hb,if_neg hb,if_pos h2]
 unfold GV at hb ⊢
 split at hb
 ·exact absurd rfl hb
 rename_i h3
 rw[if_neg h3,if_pos h2];omega
theorem Xl{h:BH}(h1:¬ BO h=0)(h2:¬ h.Kind=1):BO h+2=portOf h:=by
 unfold BO portOf at *
 split at h1
 ·exact absurd rfl h1
 rename_i hb
 rw[if_neg hb,if_neg hb,if_neg h2];omega
theorem MX(w:World)(h:BH)(hh:BH.ok Any w h):Calls Tryd.prog 40 #[.agg (BH.arr h)] w fun e w'=>e = .returned (.int .i64 (BO h))∧CJ (fun _=>False) w w':=by
 obtain⟨z,hz⟩:∃ z,z=w.heap.size:=⟨_,rfl⟩
 refine BP (args:=[.agg (BH.arr h)]) 40 ⟨w,z,[(Ak w)]⟩ Tryd.func40 rfl (by kernel_rfl) (by kernel_rfl) (EQ hz) ?_
 refine DZ [0] [(0,.agg (BH.arr h))] ?_
 refine q_c 7 0 [] [[o0,o0]] [] [(1,pt z)] ⟨w,z+1,[(Ak w),(bk z (BH.arr h) 115)]⟩ rfl Ag ?_
 by_cases h1:(h.Words:Int)<1
 ·refine A7 9 0 [1] [[o0,(a1 1),oT,o0,o0,o0],[o0]] [Qb z,BT ((h.Words:Int)<1)] [(2,i6 0)] rfl ⟨rfl,bt,Ag⟩ ?_
  refine AX [] [] (i6 0) Ag ?_
  intro w2 hw2
  refine⟨congrArg (fun n=>Ending.returned (i6 n)) (?_:(0:Int)=BO h),BC hw2⟩
  first
   | exact Jh (Q5 (by omega))
   | exact O6 (by omega) (by omega) (by omega)
   | exact O9 (by omega) (by omega) (by omega) (by omega) (by omega) (by omega)
   | exact Jh (Qy (by omega) (by omega) (by omega) (by omega))
 by_cases h3:(16:Int)<h.Words
 ·refine A7 9 0 [1] [[o0,(a1 1),oF,o0,o0,(a1 1),oT,o0,o0],[o0]] [Qb z,BF ((h.Words:Int)<1),Qb z,BT ((h.Words:Int) > 16)] [(2,i6 0)] rfl ⟨rfl,bf,rfl,bt,Ag⟩ ?_
  refine AX [] [] (i6 0) Ag ?_
  intro w4 hw4
  refine⟨congrArg (fun n=>Ending.returned (i6 n)) (?_:(0:Int)=BO h),BC hw4⟩
  first
   | exact Jh (Q5 (by omega))
   | exact O6 (by omega) (by omega) (by omega)
   | exact O9 (by omega) (by omega) (by omega) (by omega) (by omega) (by omega)
   | exact Jh (Qy (by omega) (by omega) (by omega) (by omega))
 refine A7 5 0 [0] [[o0,(a1 1),oF,o0,o0,(a1 1),oF,o0,o0]] [Qb z,BF ((h.Words:Int)<1),Qb z,BF ((h.Words:Int) > 16)] [(1,pt z),(3,.bool false)] rfl ⟨rfl,bf,rfl,bf,Ag⟩ ?_
 by_cases h5:(h.Kind:Int)=1
 ·refine A7 9 0 [1] [[o0,(a1 1),oT,o0],[o0,(a1 1),(ov (i6 (2+h.Words))),o0]] [Qb z,ET h.Kind 1,Qb z,Wr ((2:Int)+h.Words) (2+h.Words)] [(2,i6 (2+h.Words))] rfl ⟨rfl,et,rfl,CU,Ag⟩ ?_
  refine AX [] [] (i6 (2+h.Words)) Ag ?_
  intro w6 hw6
  refine⟨congrArg (fun n=>Ending.returned (i6 n)) (?_:(2+h.Words:Int)=BO h),BC hw6⟩
  first
   | exact Jh (Q5 (by omega))
   | exact O6 (by omega) (by omega) (by omega)
   | exact O9 (by omega) (by omega) (by omega) (by omega) (by omega) (by omega)
   | exact Jh (Qy (by omega) (by omega) (by omega) (by omega))
 refine A7 5 0 [0] [[o0,(a1 1),oF,o0]] [Qb z,EF h.Kind 1] [(1,pt z),(12,.bool false)] rfl ⟨rfl,ef,Ag⟩ ?_
 by_cases h7:(h.Kind:Int)=2
 ·by_cases h8:(h.Dq:Int)<1
  ·refine A7 12 0 [0] [[o0,(a1 1),oT,o0,o0,(a1 1),oF,o0,o0,o0,o0],[o0]] [Qb z,ET h.Kind 2,Qb z,BF ((h.Dq:Int)≥1)] [(2,i6 0)] rfl ⟨rfl,et,rfl,bf,Ag⟩ ?_
   refine AX [] [] (i6 0) Ag ?_
   intro w9 hw9
   refine⟨congrArg (fun n=>Ending.returned (i6 n)) (?_:(0:Int)=BO h),BC hw9⟩
   first
    | exact Jh (Q5 (by omega))
    | exact O6 (by omega) (by omega) (by omega)
    | exact O9 (by omega) (by omega) (by omega) (by omega) (by omega) (by omega)
    | exact Jh (Qy (by omega) (by omega) (by omega) (by omega))
  by_cases h10:(8:Int)<h.Dq
  ·refine A7 12 0 [0] [[o0,(a1 1),oT,o0,o0,(a1 1),oT,o0,o0,o0,(a1 1),oF,o0,o0],[o0]] [Qb z,ET h.Kind 2,Qb z,BT ((h.Dq:Int)≥1),Qb z,BF ((h.Dq:Int)≤8)] [(2,i6 0)] rfl ⟨rfl,et,rfl,bt,rfl,bf,Ag⟩ ?_
   refine AX [] [] (i6 0) Ag ?_
   intro w11 hw11
   refine⟨congrArg (fun n=>Ending.returned (i6 n)) (?_:(0:Int)=BO h),BC hw11⟩
   first
    | exact Jh (Q5 (by omega))
    | exact O6 (by omega) (by omega) (by omega)
    | exact O9 (by omega) (by omega) (by omega) (by omega) (by omega) (by omega)
    | exact Jh (Qy (by omega) (by omega) (by omega) (by omega))
  refine A7 6 0 [1] [[o0,(a1 1),oT,o0,o0,(a1 1),oT,o0,o0,o0,(a1 1),oT,o0,o0]] [Qb z,ET h.Kind 2,Qb z,BT ((h.Dq:Int)≥1),Qb z,BT ((h.Dq:Int)≤8)] [(1,pt z),(19,.bool true)] rfl ⟨rfl,et,rfl,bt,rfl,bt,Ag⟩ ?_
  have hm12:=mul_bd (a:=h.Dq) (b:=1+h.Words) (by omega) (by omega) (by omega) (by omega)
  refine BQ 3 0 [] [[o0,(a1 1),o0,(a1 1),(ov (i6 (1+h.Words))),(ov (i6 (h.Dq*(1+h.Words)))),(ov (i6 (1+(h.Dq*(1+h.Words))))),o0]] [Qb z,Qb z,Wr ((1:Int)+h.Words) (1+h.Words),Wr ((h.Dq:Int)*(1+h.Words)) (h.Dq*(1+h.Words)),Wr ((1:Int)+(h.Dq*(1+h.Words))) (1+(h.Dq*(1+h.Words)))] [(2,i6 (1+(h.Dq*(1+h.Words))))] rfl ⟨rfl,rfl,CU,CU,CU,Ag⟩ ?_
  refine AX [] [] (i6 (1+(h.Dq*(1+h.Words)))) Ag ?_
  intro w13 hw13
  refine⟨congrArg (fun n=>Ending.returned (i6 n)) (?_:(1+(h.Dq*(1+h.Words)):Int)=BO h),BC hw13⟩
  first
   | exact Jh (Q5 (by omega))
   | exact O6 (by omega) (by omega) (by omega)
   | exact O9 (by omega) (by omega) (by omega) (by omega) (by omega) (by omega)
   | exact Jh (Qy (by omega) (by omega) (by omega) (by omega))
 refine A7 12 0 [0] [[o0,(a1 1),oF,o0,o0,o0,o0,o0],[o0]] [Qb z,EF h.Kind 2] [(2,i6 0)] rfl ⟨rfl,ef,Ag⟩ ?_
 refine AX [] [] (i6 0) Ag ?_
 intro w14 hw14
 refine⟨congrArg (fun n=>Ending.returned (i6 n)) (?_:(0:Int)=BO h),BC hw14⟩
 first
  | exact Jh (Q5 (by omega))
  | exact O6 (by omega) (by omega) (by omega)
  | exact O9 (by omega) (by omega) (by omega) (by omega) (by omega) (by omega)
  | exact Jh (Qy (by omega) (by omega) (by omega) (by omega))
theorem Yg(w:World)(h:BH)(hh:BH.ok Any w h):Calls Tryd.prog 41 #[.agg (BH.arr h)] w fun e w'=>e = .returned (.int .i64 (portOf h))∧CJ (fun _=>False) w w':=by
 obtain⟨z,hz⟩:∃ z,z=w.heap.size:=⟨_,rfl⟩
 refine BP (args:=[.agg (BH.arr h)]) 17 ⟨w,z,[(Ak w)]⟩ Tryd.func41 rfl (by kernel_rfl) (by kernel_rfl) (EQ hz) ?_
 have hbd:=Tq h;have hsd:=Qs h;have hwd:=body_w h;have hsp:=IU h
 refine DZ [0] [(0,.agg (BH.arr h))] ?_
 refine q_c 6 1 [] [[o0,o0],[(an 3 1)]] [Qb z,Qb z,Qb z] [(1,pt z),(4,.agg (BH.arr h))] ⟨w,z+1,[(Ak w),(bk z (BH.arr h) 115)]⟩ rfl ⟨rfl,rfl,rfl,Ag⟩ ?_
 refine Bz 40 #[.agg (BH.arr h)] (some 5) (i6 (BO h)) (fun w1 hw1=>MX w1 h (hh.ext (hw1.ext rfl) (fun _ h=>h))) (fun n2 (hn3:z+1≤n2) => ?_)
 refine BQ 4 0 [] [[o0]] [] [(1,pt z),(3,i6 (BO h))] rfl Ag ?_
 by_cases h4:(BO h:Int)=0
 ·refine A7 9 0 [1] [[o0,oT,o0],[o0]] [ET (BO h) 0] [(2,i6 0)] rfl ⟨et,Ag⟩ ?_
  refine AX [] [] (i6 0) Ag ?_
  intro w5 hw5
  refine⟨congrArg (fun n=>Ending.returned (i6 n)) (?_:(0:Int)=portOf h),BC hw5⟩
  first
   | (have:=hsp.1 (by omega);omega)
   | exact Xe (by omega) (by omega)
   | exact Xl (by omega) (by omega)
 refine A7 5 0 [0] [[o0,oF,o0]] [EF (BO h) 0] [(1,pt z),(3,i6 (BO h)),(8,.bool false)] rfl ⟨ef,Ag⟩ ?_
 by_cases h6:(h.Kind:Int)=1
 ·refine A7 9 0 [1] [[o0,(a1 1),oT,o0],[o0,(ov (i6 ((BO h)+1))),o0]] [Qb z,ET h.Kind 1,Wr ((BO h:Int)+1) ((BO h)+1)] [(2,i6 ((BO h)+1))] rfl ⟨rfl,et,CU,Ag⟩ ?_
  refine AX [] [] (i6 ((BO h)+1)) Ag ?_
  intro w7 hw7
  refine⟨congrArg (fun n=>Ending.returned (i6 n)) (?_:((BO h)+1:Int)=portOf h),BC hw7⟩
  first
   | (have:=hsp.1 (by omega);omega)
   | exact Xe (by omega) (by omega)
   | exact Xl (by omega) (by omega)
 refine A7 9 0 [0] [[o0,(a1 1),oF,o0],[o0,(ov (i6 ((BO h)+2))),o0]] [Qb z,EF h.Kind 1,Wr ((BO h:Int)+2) ((BO h)+2)] [(2,i6 ((BO h)+2))] rfl ⟨rfl,ef,CU,Ag⟩ ?_
 refine AX [] [] (i6 ((BO h)+2)) Ag ?_
 intro w8 hw8
 refine⟨congrArg (fun n=>Ending.returned (i6 n)) (?_:((BO h)+2:Int)=portOf h),BC hw8⟩
 first
  | (have:=hsp.1 (by omega);omega)
  | exact Xe (by omega) (by omega)
  | exact Xl (by omega) (by omega)
theorem take_snoc{α:Type}[Inhabited α]{xs:List α}{k:Nat}(h:k<xs.length):xs.take (k+1)=xs.take k++[gd xs k]:=by
 rw[List.take_succ_eq_append_getElem h,Gq h]
def OU(k:Int)(b:Bool)(q:DF):Bool:=decide (q.Channel=k)&&(q.Source==b)
def XZ(x:Ar)(k:Int)(b:Bool):Nat:=x.AB.xs.countP (OU k b)
theorem src_t{q:DF}{k:Int}{b:Bool}(h1:q.Channel=k)(h2:q.Source=b):OU k b q=true:=by simp[OU,h1,h2]
theorem Zb{q:DF}{k:Int}{b:Bool}(h1:¬ q.Channel=k):OU k b q=false:=by simp[OU,h1]
theorem Y9{q:DF}{k:Int}{b:Bool}(h2:¬ q.Source=b):OU k b q=false:=by simp[OU,h2]
def VB{α:Type}(f:α→Nat)(xs:List α)(i:Nat):Nat:=((xs.take i).map f).sum
theorem Zy{α:Type}[Inhabited α]{f:α→Nat}{xs:List α}{i:Nat}(h:i<xs.length):VB f xs (i+1)=VB f xs i+f (gd xs i):=by
 unfold VB;rw[take_snoc h];simp
def LG(c:Aj)(k:Nat)(b:Bool):Nat:=VB (fun x=>XZ x k b) c.Aa.xs c.Aa.xs.length
def LW(c:Aj)(k:Nat):Bool:=decide (portOf (gd c.Am.xs k)≠0) && !(decide ((gd c.Am.xs k).Kind=1)&&decide ((gd c.Am.xs k).Dq≠0))&&decide (LG c k true=1)&&decide (1≤LG c k false∧LG c k false≤4)
def EG(c:Aj):Bool:=decide (0≤c.Kernel∧c.Kernel<1024)&&decide (c.Aa.xs.length≤8)&&decide (c.Am.xs.length≤16)&&c.Aa.xs.all (EN c.Am.xs.length)&&(List.range c.Am.xs.length).all (LW c)
theorem RI{c:Aj}(h:¬ (0≤c.Kernel∧c.Kernel<1024)∨8<c.Aa.xs.length∨16<c.Am.xs.length):EG c=false:=by
 unfold EG
 rcases h with h | h | h
 ·rw[decide_eq_false h];rfl
 ·rw[decide_eq_false (show ¬ c.Aa.xs.length≤8 by omega)];simp
 rw[decide_eq_false (show ¬ c.Am.xs.length≤16 by omega)];simp
theorem ZJ{c:Aj}{k:Nat}(hk:k<c.Aa.xs.length)(h:EN c.Am.xs.length (gd c.Aa.xs k)=false):EG c=false:=by
 unfold EG
 rw[Qm hk h];simp
theorem Mc{c:Aj}{k:Nat}(hk:k<c.Am.xs.length)(h:LW c k=false):EG c=false:=by
 unfold EG
 have:(List.range c.Am.xs.length).all (LW c)=false:=by
  rw[List.all_eq_false];exact⟨k,List.mem_range.2 hk,by simp[h]⟩
 rw[this];simp
theorem ZX{c:Aj}(h1:0≤c.Kernel∧c.Kernel<1024)(h2:c.Aa.xs.length≤8)(h3:c.Am.xs.length≤16)(h4:∀ i,i<c.Aa.xs.length→EN c.Am.xs.length (gd c.Aa.xs i)=true)(h5:∀ i,i<c.Am.xs.length→LW c i=true):EG c=true:=by
 unfold EG
 rw[decide_eq_true h1,decide_eq_true h2,decide_eq_true h3,Vq h4]
 simp only[Bool.and_true,Bool.true_and,List.all_eq_true,List.mem_range]
 exact h5
theorem Py{n:Nat}{x:Ar}(h:EN n x=true):x.AB.xs.length≤8:=by
 unfold EN at h;simp only[Bool.and_eq_true,decide_eq_true_eq]at h;exact h.1.1.2
theorem YZ{n:Nat}{x:Ar}(h:EN n x=true):x.Ah.xs.length≤8∧x.Ah.xs.all Ov=true:=by
 unfold EN at h;simp only[Bool.and_eq_true,decide_eq_true_eq]at h;exact⟨h.1.1.1,h.1.2⟩
theorem NP{c:Aj}{k:Nat}(h:portOf (gd c.Am.xs k)=0∨((gd c.Am.xs k).Kind=1∧(gd c.Am.xs k).Dq≠0)∨LG c k true≠1∨LG c k false<1∨4<LG c k false):LW c k=false:=by
 unfold LW
 rcases h with h | ⟨h,h'⟩ | h | h | h
 ·simp[h]
 ·simp[h,h']
 ·simp[h]
 ·rw[decide_eq_false (show ¬ (1≤LG c k false∧LG c k false≤4)by omega)];simp
 rw[decide_eq_false (show ¬ (1≤LG c k false∧LG c k false≤4)by omega)];simp
theorem Xb{c:Aj}{k:Nat}(h1:¬ portOf (gd c.Am.xs k)=0)(h2:¬ ((gd c.Am.xs k).Kind=1∧¬ (gd c.Am.xs k).Dq=0))(h3:LG c k true=1)(h4:1≤LG c k false∧LG c k false≤4):LW c k=true:=by
 unfold LW
 rw[decide_eq_true h3,decide_eq_true h4]
 simp[h1]
 by_cases e:(gd c.Am.xs k).Kind=1
 ·exact .inr (Classical.not_not.1 (fun e2=>h2 ⟨e,e2⟩))
 exact .inl e
def DJ(p:Nat)(x:Ar)(k:Int)(b:Bool)(j:Nat):List EW:=((List.range j).filter (fun q=>OU k b (gd x.AB.xs q))).map (fun(q:Nat)=>(⟨(p:Int),(q:Int)⟩:EW))
def Ec(c:Aj)(k:Int)(b:Bool)(i:Nat):List EW:=(List.range i).flatMap (fun p=>DJ p (gd c.Aa.xs p) k b (gd c.Aa.xs p).AB.xs.length)
def Ce(c:Aj)(k:Int)(b:Bool):List EW:=Ec c k b c.Aa.xs.length
theorem SY{p:Nat}{x:Ar}{k:Int}{b:Bool}{j:Nat}(h:OU k b (gd x.AB.xs j)=true):DJ p x k b (j+1)=DJ p x k b j++[⟨(p:Int),(j:Int)⟩]:=by
 unfold DJ;rw[List.range_succ,List.filter_append,List.map_append];simp[h]
theorem OO{p:Nat}{x:Ar}{k:Int}{b:Bool}{j:Nat}(h:OU k b (gd x.AB.xs j)=false):DJ p x k b (j+1)=DJ p x k b j:=by
 unfold DJ;rw[List.range_succ,List.filter_append,List.map_append];simp[h]
theorem Qo{p:Nat}{x:Ar}{k:Int}{b:Bool}{j:Nat}:(DJ p x k b j).length≤j:=by
 unfold DJ;rw[List.length_map];exact Nat.le_trans (List.length_filter_le _ _) (by simp)
theorem OM{c:Aj}{k:Int}{b:Bool}{i:Nat}:Ec c k b (i+1)=Ec c k b i++DJ i (gd c.Aa.xs i) k b (gd c.Aa.xs i).AB.xs.length:=by
 unfold Ec;rw[List.range_succ,List.flatMap_append];simp
theorem Ry{c:Aj}{k:Int}{b:Bool}(hp:∀ i,i<c.Aa.xs.length→(gd c.Aa.xs i).AB.xs.length≤8):∀ (i:Nat),i≤c.Aa.xs.length→(Ec c k b i).length≤8*i
 | 0,_=>by simp[Ec]
 | i+1,h=>by
  have h1:=Ry (k:=k) (b:=b) hp i (by omega)
  have h2:=hp i (by omega)
  have h3:=Qo (p:=i) (x:=gd c.Aa.xs i) (k:=k) (b:=b) (j:=(gd c.Aa.xs i).AB.xs.length)
  rw[OM,List.length_append];omega
theorem VW(xs:List DF)(p:DF→Bool):∀ (j:Nat),j≤xs.length→((List.range j).filter (fun q=>p (gd xs q))).length=(xs.take j).countP p
 | 0,_=>by simp
 | j+1,h=>by
  rw[List.range_succ,List.filter_append,List.length_append,VW xs p j (by omega),take_snoc (by omega),List.countP_append]
  cases hp:p (gd xs j) <;> simp[hp]
theorem UJ{c:Aj}{k:Int}{b:Bool}:∀ (i:Nat),i≤c.Aa.xs.length→(Ec c k b i).length=VB (fun x=>XZ x k b) c.Aa.xs i
 | 0,_=>by simp[Ec,VB]
 | i+1,h=>by
  rw[OM,List.length_append,UJ i (by omega),Zy (by omega)]
  congr 1
  unfold DJ XZ
  rw[List.length_map,VW _ _ _ (Nat.le_refl _),List.take_length]
theorem P8(c:Aj)(k:Nat)(b:Bool):(Ce c k b).length=LG c k b:=UJ _ (Nat.le_refl _)
section
variable (n2:Nat)(y11:Ar)(z:Nat)(c:Aj)(aD2:Option Addr)(ch:Int)(i j cD2:Nat)(aS2:Option Addr)(cS2:Nat)(aD:Option Addr)(cD:Nat)(aS:Option Addr)(cS b4:Nat)(o5 b15 o16:Nat)
abbrev ED:=bk n2 (Ar.arr y11) 52
abbrev DV:=bk z (Aj.arr c) 26
abbrev Eg:=CP z 121 2 EW.cells (.slice aD2 ((Ec c ch false i++DJ i y11 ch false j).length) cD2) (Ec c ch false i++DJ i y11 ch false j)
abbrev Ei:=CP z 121 2 EW.cells (.slice aS2 ((Ec c ch true i++DJ i y11 ch true j).length) cS2) (Ec c ch true i++DJ i y11 ch true j)
abbrev Ej:=CP z 121 2 EW.cells (.slice aD ((Ec c ch false i).length) cD) (Ec c ch false i)
abbrev F8:=CP z 121 2 EW.cells (.slice aS ((Ec c ch true i).length) cS) (Ec c ch true i)
abbrev Eo:CO:=(5,.slice aD2 ((Ec c ch false i++DJ i y11 ch false j).length) cD2)
abbrev Eh:CO:=(4,.slice aS2 ((Ec c ch true i++DJ i y11 ch true j).length) cS2)
abbrev DY:CO:=(11,.slice (some ⟨b4,o5,none⟩) c.Aa.xs.length c.Aa.cap)
abbrev EM:CO:=(19,.slice (some ⟨b15,o16,none⟩) y11.AB.xs.length y11.AB.cap)
abbrev Du:CO:=(11,.slice c.Aa.a c.Aa.xs.length c.Aa.cap)
abbrev DU:CO:=(19,.slice y11.AB.a y11.AB.xs.length y11.AB.cap)
abbrev Dn:=(12,Ac c.Aa.xs.length)
abbrev FB:=(20,Ac y11.AB.xs.length)
abbrev HY:CO:=(5,.slice aD ((Ec c ch false i).length) cD)
abbrev Ji:=(21,i6 ((j+1:Nat):Int))
end
theorem Oz(w:World)(c:Aj)(ch:Int)(hc:Aj.ok Any w c)(hl:c.Aa.xs.length≤8)(hp:∀ i,i<c.Aa.xs.length→(gd c.Aa.xs i).AB.xs.length≤8):Calls Tryd.prog 39 #[.agg (Aj.arr c),.int .i64 ch] w fun e w'=>∃ a1 c1 a2 c2,e = .returned (.tuple #[.slice a1 (Ce c ch true).length c1,.slice a2 (Ce c ch false).length c2])∧Uh EW.cells 2 (New w.heap.size) w' ⟨a1,c1,Ce c ch true⟩∧Uh EW.cells 2 (New w.heap.size) w' ⟨a2,c2,Ce c ch false⟩∧CJ (fun _=>False) w w':=by
 obtain⟨z,hz⟩:∃ z,z=w.heap.size:=⟨_,rfl⟩
 refine BP (args:=[.agg (Aj.arr c),i6 ch]) 50 ⟨w,z,[(Ak w)]⟩ Tryd.func39 rfl (by kernel_rfl) (by kernel_rfl) (EQ hz) ?_
 refine DZ [0,1] [(0,.agg (Aj.arr c)),(1,i6 ch)] ?_
 refine q_c 10 0 [] [[o0,o0,o0],[o0,(a1 1),o0,o0]] [Qb z] [(1,i6 ch),(4,.slice none 0 0),(5,.slice none 0 0),(Du c),(Dn c),(13,i6 0)] ⟨w,z+1,[(Ak w),(DV z c)]⟩ rfl ⟨rfl,Ag⟩ ?_
 refine Nb z 121 2 EW.cells ?_
 refine Nb z 121 2 EW.cells ?_
 refine DW (fun m a w'=>∃ (n2:Nat) (i:Nat) (aS:Option Addr) (cS:Nat) (aD:Option Addr) (cD:Nat),m=c.Aa.xs.length - i∧z+1≤n2∧(i≤c.Aa.xs.length)∧St 50 [(1,i6 ch),(4,.slice aS ((Ec c ch true i).length) cS),(HY c ch i aD cD),(Du c),(Dn c),(13,Ac i)] [] ⟨w,n2,[(Ak w),(DV z c),(F8 z c ch i aS cS),(Ej z c ch i aD cD)]⟩ a w') (c.Aa.xs.length - 0) ?_ ?_
 ·intro a w' hs;exact⟨(z+1),0,none,0,none,0,rfl,Nat.le_refl _,Nat.zero_le _,hs⟩
 rintro m a w' ⟨n2,i,aS,cS,aD,cD,rfl,hn1,hki,hs⟩
 refine(?_:G Tryd.prog 50 [(1,i6 ch),(4,.slice aS ((Ec c ch true i).length) cS),(HY c ch i aD cD),(Du c),(Dn c),(13,Ac i)] [] ⟨w,n2,[(Ak w),(DV z c),(F8 z c ch i aS cS),(Ej z c ch i aD cD)]⟩ _ _ _) a w' hs
 clear hs a w'
 have hq3:=Ry (k:=ch) (b:=true) hp i (by omega)
 have hq4:=Ry (k:=ch) (b:=false) hp i (by omega)
 refine DC ?_
 by_cases h3:(i:Int)<(c.Aa.xs.length:Int)
 ·refine A7 10 0 [1] [[oT]] [BT ((i:Int)<(c.Aa.xs.length:Int))] [(1,i6 ch),(4,.slice aS ((Ec c ch true i).length) cS),(HY c ch i aD cD),(Du c),(Dn c),(13,Ac i),(14,.bool true)] rfl ⟨bt,Ag⟩ ?_
  obtain⟨b4,o5,ha6,hF8,hc7⟩:=(hc.Aa).1.all (show 0<c.Aa.xs.length by omega)
  replace ha6:c.Aa.a=some ⟨b4,o5,none⟩:=ha6
  refine IM [(1,i6 ch),(4,.slice aS ((Ec c ch true i).length) cS),(HY c ch i aD cD),(DY c b4 o5),(Dn c),(13,Ac i),(14,.bool true)] (by(try dsimp only[DV,Ej,F8,DY,Du,Dn,HY]);simp only[ha6]) ?_
  have hc9:=hc7 i (show i<c.Aa.xs.length by omega)
  have he10:=(hc.Aa).2 i (show i<c.Aa.xs.length by omega)
  obtain⟨y11,hy11⟩:∃ y_,y_=gd c.Aa.xs i:=⟨_,rfl⟩
  rw[←hy11]at he10 hc9
  have h8y11:=hp i (by omega);rw[←hy11]at h8y11
  refine q_c 8 0 [] [[o0,(oi i),(ol 0 (Ar.arr y11)),o0,o0,(an 8 4)],[o0,(a1 4),o0,o0]] [Ed i,i<c.Aa.xs.length,Dt,Ie w b4 (o5+i*8) (Ar.arr y11),Qb n2,Qb n2,Qb n2,Qb n2,Qb n2,Qb n2,Qb n2,Qb n2,Qb n2] [(1,i6 ch),(4,.slice aS ((Ec c ch true i).length) cS),(HY c ch i aD cD),(6,Ac i),(DY c b4 o5),(Dn c),(13,Ac i),(DU y11),(FB y11),(21,i6 0)] ⟨w,n2+1,[(Ak w),(DV z c),(F8 z c ch i aS cS),(Ej z c ch i aD cD),(ED n2 y11)]⟩ rfl ⟨rfl,(by omega),rfl,EL hc9,rfl,rfl,rfl,rfl,rfl,rfl,rfl,rfl,rfl,Ag⟩ ?_
  refine DW (fun m a w'=>∃ (n13:Nat) (j:Nat) (aS2:Option Addr) (cS2:Nat) (aD2:Option Addr) (cD2:Nat),m=y11.AB.xs.length - j∧n2+1≤n13∧(j≤y11.AB.xs.length)∧St 50 [(1,i6 ch),(Eh y11 c ch i j aS2 cS2),(Eo y11 c aD2 ch i j cD2),(6,Ac i),(DY c b4 o5),(Dn c),(13,Ac i),(DU y11),(FB y11),(21,Ac j)] [] ⟨w,n13,[(Ak w),(DV z c),(Ei y11 z c ch i j aS2 cS2),(Eg y11 z c aD2 ch i j cD2),(ED n2 y11)]⟩ a w') (y11.AB.xs.length - 0) ?_ ?_
  ·intro a w' hs;exact⟨(n2+1),0,aS,cS,aD,cD,rfl,Nat.le_refl _,Nat.zero_le _,by(try dsimp only[ED,DV,Eg,Ei,Ej,F8,Eo,Eh,DY,Du,DU,Dn,FB,HY]at hs ⊢);rw[show DJ i y11 ch true 0=[]from rfl,show DJ i y11 ch false 0=[]from rfl,List.append_nil,List.append_nil];exact hs⟩
  rintro m a w' ⟨n13,j,aS2,cS2,aD2,cD2,rfl,hn12,hkj,hs⟩
  refine(?_:G Tryd.prog 50 [(1,i6 ch),(Eh y11 c ch i j aS2 cS2),(Eo y11 c aD2 ch i j cD2),(6,Ac i),(DY c b4 o5),(Dn c),(13,Ac i),(DU y11),(FB y11),(21,Ac j)] [] ⟨w,n13,[(Ak w),(DV z c),(Ei y11 z c ch i j aS2 cS2),(Eg y11 z c aD2 ch i j cD2),(ED n2 y11)]⟩ _ _ _) a w' hs
  clear hs a w'
  have hq1:(DJ i y11 ch true j).length≤j:=Qo
  have hq2:(DJ i y11 ch false j).length≤j:=Qo
  refine DC ?_
  by_cases h14:(j:Int)<(y11.AB.xs.length:Int)
  ·refine A7 10 0 [1] [[oT]] [BT ((j:Int)<(y11.AB.xs.length:Int))] [(1,i6 ch),(Eh y11 c ch i j aS2 cS2),(Eo y11 c aD2 ch i j cD2),(6,Ac i),(DY c b4 o5),(Dn c),(13,Ac i),(DU y11),(FB y11),(21,Ac j),(22,.bool true)] rfl ⟨bt,Ag⟩ ?_
   obtain⟨b15,o16,ha17,hF19,hc18⟩:=(he10.AB).1.all (show 0<y11.AB.xs.length by omega)
   replace ha17:y11.AB.a=some ⟨b15,o16,none⟩:=ha17
   refine IM [(1,i6 ch),(Eh y11 c ch i j aS2 cS2),(Eo y11 c aD2 ch i j cD2),(6,Ac i),(DY c b4 o5),(Dn c),(13,Ac i),(EM y11 b15 o16),(FB y11),(21,Ac j),(22,.bool true)] (by(try dsimp only[ED,DV,Eg,Ei,Ej,F8,Eo,Eh,DY,EM,Du,DU,Dn,FB,HY]);simp only[ha17]) ?_
   have hc20:=hc18 j (show j<y11.AB.xs.length by omega)
   have he21:=(he10.AB).2 j (show j<y11.AB.xs.length by omega)
   obtain⟨y22,hy22⟩:∃ y_,y_=gd y11.AB.xs j:=⟨_,rfl⟩
   rw[←hy22]at he21 hc20
   refine q_c 5 0 [] [[o0,(oi j),(ol 0 (DF.arr y22)),o0,o0,(an 2 5)]] [Ed j,j<y11.AB.xs.length,Dt,Ie w b15 (o16+j*2) (DF.arr y22),Qb n13,Qb n13] [(1,i6 ch),(Eh y11 c ch i j aS2 cS2),(Eo y11 c aD2 ch i j cD2),(6,Ac i),(DY c b4 o5),(Dn c),(13,Ac i),(EM y11 b15 o16),(FB y11),(21,Ac j),(9,pt n13),(8,Ac j)] ⟨w,n13+1,[(Ak w),(DV z c),(Ei y11 z c ch i j aS2 cS2),(Eg y11 z c aD2 ch i j cD2),(ED n2 y11),(bk n13 (DF.arr y22) 127)]⟩ rfl ⟨rfl,(by omega),rfl,EL hc20,rfl,rfl,Ag⟩ ?_
   by_cases h23:(y22.Channel:Int)=ch
   ·refine A7 8 0 [0] [[o0,(a1 5),o0,oF,o0],[o0,(a1 5),o0]] [Qb n13,NF y22.Channel ch,Qb n13] [(1,i6 ch),(Eh y11 c ch i j aS2 cS2),(Eo y11 c aD2 ch i j cD2),(6,Ac i),(DY c b4 o5),(Dn c),(13,Ac i),(EM y11 b15 o16),(FB y11),(21,Ac j),(8,Ac j),(37,.bool y22.Source)] rfl ⟨rfl,nf,rfl,Ag⟩ ?_
    by_cases h24:y22.Source=true
    ·refine q_c 2 5 [3] [[o0,o0,o0,o0,o0]] [Value.bool y22.Source=Value.bool true] [(1,i6 ch),(Eo y11 c aD2 ch i j cD2),(6,Ac i),(DY c b4 o5),(Dn c),(13,Ac i),(EM y11 b15 o16),(FB y11),(21,Ac j),(40,.slice aS2 ((Ec c ch true i++DJ i y11 ch true j).length) cS2),(44,.slice (some ⟨n13+1,0,none⟩) 1 1)] ⟨w,n13+2,[(Ak w),(DV z c),(Ei y11 z c ch i j aS2 cS2),(Eg y11 z c aD2 ch i j cD2),(ED n2 y11),(bk n13 (DF.arr y22) 127),(bk (n13+1) #[(Ac i),Ac j] 121)]⟩ rfl ⟨(congrArg Value.bool h24),Ag⟩ ?_
     refine U4 z 2 6 (Ec c ch true i++DJ i y11 ch true j) [(⟨(i:Int),(j:Int)⟩:EW)] EW.cells 121 2 16 (.slice aS2 ((Ec c ch true i++DJ i y11 ch true j).length) cS2) (n13+1) 1 1 #[(Ac i),Ac j] 121 (0,0) true (some 45) (by simp only[List.length_cons,List.length_nil,List.length_append];omega) (show z≤n13+2 by omega) (fun ax25 cp26 n27 (hn28:n13+2≤n27) => ?_)
     refine BQ 6 0 [] [[o0],[(ov (i6 ((j+1:Nat):Int))),o0]] [Wr ((j:Int)+1) (((j+1:Nat):Int))] [(1,i6 ch),(Eo y11 c aD2 ch i j cD2),(6,Ac i),(DY c b4 o5),(Dn c),(13,Ac i),(EM y11 b15 o16),(FB y11),(Ji j),(4,.slice ax25 ((Ec c ch true i++DJ i y11 ch true j++[(⟨(i:Int),(j:Int)⟩:EW)]).length) cp26)] rfl ⟨CU,Ag⟩ ?_
     refine Cc [0,1,2,3,4] [(Ak w),(DV z c),(CP z 121 2 EW.cells (.slice ax25 ((Ec c ch true i++DJ i y11 ch true j++[(⟨(i:Int),(j:Int)⟩:EW)]).length) cp26) (Ec c ch true i++DJ i y11 ch true j++[(⟨(i:Int),(j:Int)⟩:EW)])),(Eg y11 z c aD2 ch i j cD2),(ED n2 y11)] rfl rfl ?_
     have hTtrue:=SY (p:=i) (x:=y11) (k:=ch) (b:=true) (j:=j) (by rw[←hy22];exact src_t (by omega) (by revert h24;cases y22.Source <;> simp))
     have hTfalse:=OO (p:=i) (x:=y11) (k:=ch) (b:=false) (j:=j) (by rw[←hy22];exact Y9 (by revert h24;cases y22.Source <;> simp))
     refine Fj [1,4,5,6,11,12,13,19,20,21] [(1,i6 ch),(4,.slice ax25 ((Ec c ch true i++DJ i y11 ch true j++[(⟨(i:Int),(j:Int)⟩:EW)]).length) cp26),(Eo y11 c aD2 ch i j cD2),(6,Ac i),(DY c b4 o5),(Dn c),(13,Ac i),(DU y11),(FB y11),(Ji j)] (by(try dsimp only[ED,DV,Eg,Ei,Ej,F8,Eo,Eh,DY,EM,Du,DU,Dn,FB,HY,Ji]);simp only[ha17];rfl) ?_
     refine Cj (fun a w' hs=>⟨y11.AB.xs.length - (j+1),by omega,n27,(j+1),ax25,cp26,aD2,cD2,rfl,by omega,by omega,by(try dsimp only[ED,DV,Eg,Ei,Ej,F8,Eo,Eh,DY,EM,Du,DU,Dn,FB,HY,Ji]at hs ⊢);rw[hTtrue,←List.append_assoc,hTfalse];exact hs⟩)
    refine q_c 2 5 [2] [[o0,o0,o0,o0,o0]] [Value.bool y22.Source=Value.bool false] [(1,i6 ch),(Eh y11 c ch i j aS2 cS2),(6,Ac i),(DY c b4 o5),(Dn c),(13,Ac i),(EM y11 b15 o16),(FB y11),(21,Ac j),(26,.slice aD2 ((Ec c ch false i++DJ i y11 ch false j).length) cD2),(30,.slice (some ⟨n13+1,0,none⟩) 1 1)] ⟨w,n13+2,[(Ak w),(DV z c),(Ei y11 z c ch i j aS2 cS2),(Eg y11 z c aD2 ch i j cD2),(ED n2 y11),(bk n13 (DF.arr y22) 127),(bk (n13+1) #[(Ac i),Ac j] 121)]⟩ rfl ⟨(congrArg Value.bool (Bool.eq_false_iff.2 h24)),Ag⟩ ?_
    refine U4 z 3 6 (Ec c ch false i++DJ i y11 ch false j) [(⟨(i:Int),(j:Int)⟩:EW)] EW.cells 121 2 16 (.slice aD2 ((Ec c ch false i++DJ i y11 ch false j).length) cD2) (n13+1) 1 1 #[(Ac i),Ac j] 121 (0,0) true (some 31) (by simp only[List.length_cons,List.length_nil,List.length_append];omega) (show z≤n13+2 by omega) (fun ax29 cp30 n31 (hn32:n13+2≤n31) => ?_)
    refine BQ 6 0 [] [[o0],[(ov (i6 ((j+1:Nat):Int))),o0]] [Wr ((j:Int)+1) (((j+1:Nat):Int))] [(1,i6 ch),(Eh y11 c ch i j aS2 cS2),(6,Ac i),(DY c b4 o5),(Dn c),(13,Ac i),(EM y11 b15 o16),(FB y11),(Ji j),(5,.slice ax29 ((Ec c ch false i++DJ i y11 ch false j++[(⟨(i:Int),(j:Int)⟩:EW)]).length) cp30)] rfl ⟨CU,Ag⟩ ?_
    refine Cc [0,1,2,3,4] [(Ak w),(DV z c),(Ei y11 z c ch i j aS2 cS2),(CP z 121 2 EW.cells (.slice ax29 ((Ec c ch false i++DJ i y11 ch false j++[(⟨(i:Int),(j:Int)⟩:EW)]).length) cp30) (Ec c ch false i++DJ i y11 ch false j++[(⟨(i:Int),(j:Int)⟩:EW)])),(ED n2 y11)] rfl rfl ?_
    have hTtrue:=OO (p:=i) (x:=y11) (k:=ch) (b:=true) (j:=j) (by rw[←hy22];exact Y9 (by revert h24;cases y22.Source <;> simp))
    have hTfalse:=SY (p:=i) (x:=y11) (k:=ch) (b:=false) (j:=j) (by rw[←hy22];exact src_t (by omega) (by revert h24;cases y22.Source <;> simp))
    refine Fj [1,4,5,6,11,12,13,19,20,21] [(1,i6 ch),(Eh y11 c ch i j aS2 cS2),(5,.slice ax29 ((Ec c ch false i++DJ i y11 ch false j++[(⟨(i:Int),(j:Int)⟩:EW)]).length) cp30),(6,Ac i),(DY c b4 o5),(Dn c),(13,Ac i),(DU y11),(FB y11),(Ji j)] (by(try dsimp only[ED,DV,Eg,Ei,Ej,F8,Eo,Eh,DY,EM,Du,DU,Dn,FB,HY,Ji]);simp only[ha17];rfl) ?_
    refine Cj (fun a w' hs=>⟨y11.AB.xs.length - (j+1),by omega,n31,(j+1),aS2,cS2,ax29,cp30,rfl,by omega,by omega,by(try dsimp only[ED,DV,Eg,Ei,Ej,F8,Eo,Eh,DY,EM,Du,DU,Dn,FB,HY,Ji]at hs ⊢);rw[hTtrue,hTfalse,←List.append_assoc];exact hs⟩)
   refine A7 10 0 [1] [[o0,(a1 5),o0,oT,o0],[(ov (i6 ((j+1:Nat):Int))),o0]] [Qb n13,NT y22.Channel ch,Wr ((j:Int)+1) (((j+1:Nat):Int))] [(1,i6 ch),(Eh y11 c ch i j aS2 cS2),(Eo y11 c aD2 ch i j cD2),(6,Ac i),(DY c b4 o5),(Dn c),(13,Ac i),(EM y11 b15 o16),(FB y11),(Ji j)] rfl ⟨rfl,nt,CU,Ag⟩ ?_
   refine Cc [0,1,2,3,4] [(Ak w),(DV z c),(Ei y11 z c ch i j aS2 cS2),(Eg y11 z c aD2 ch i j cD2),(ED n2 y11)] rfl rfl ?_
   have hTtrue:=OO (p:=i) (x:=y11) (k:=ch) (b:=true) (j:=j) (by rw[←hy22];exact Zb (by omega))
   have hTfalse:=OO (p:=i) (x:=y11) (k:=ch) (b:=false) (j:=j) (by rw[←hy22];exact Zb (by omega))
   refine Fj [1,4,5,6,11,12,13,19,20,21] [(1,i6 ch),(Eh y11 c ch i j aS2 cS2),(Eo y11 c aD2 ch i j cD2),(6,Ac i),(DY c b4 o5),(Dn c),(13,Ac i),(DU y11),(FB y11),(Ji j)] (by(try dsimp only[ED,DV,Eg,Ei,Ej,F8,Eo,Eh,DY,EM,Du,DU,Dn,FB,HY,Ji]);simp only[ha17];rfl) ?_
   refine Cj (fun a w' hs=>⟨y11.AB.xs.length - (j+1),by omega,(n13+1),(j+1),aS2,cS2,aD2,cD2,rfl,by omega,by omega,by(try dsimp only[ED,DV,Eg,Ei,Ej,F8,Eo,Eh,DY,EM,Du,DU,Dn,FB,HY,Ji]at hs ⊢);rw[hTtrue,hTfalse];exact hs⟩)
  refine A7 13 0 [0] [[oF],[(ov (i6 ((i+1:Nat):Int))),o0]] [BF ((j:Int)<(y11.AB.xs.length:Int)),Wr ((i:Int)+1) (((i+1:Nat):Int))] [(1,i6 ch),(Eh y11 c ch i j aS2 cS2),(Eo y11 c aD2 ch i j cD2),(DY c b4 o5),(Dn c),(13,i6 ((i+1:Nat):Int))] rfl ⟨bf,CU,Ag⟩ ?_
  refine Cc [0,1,2,3] [(Ak w),(DV z c),(Ei y11 z c ch i j aS2 cS2),(Eg y11 z c aD2 ch i j cD2)] rfl rfl ?_
  refine Fj [1,4,5,11,12,13] [(1,i6 ch),(Eh y11 c ch i j aS2 cS2),(Eo y11 c aD2 ch i j cD2),(Du c),(Dn c),(13,i6 ((i+1:Nat):Int))] (by(try dsimp only[ED,DV,Eg,Ei,Ej,F8,Eo,Eh,DY,EM,Du,DU,Dn,FB,HY,Ji]);simp only[ha6];rfl) ?_
  refine Cj (fun a w' hs=>⟨c.Aa.xs.length - (i+1),by omega,n13,(i+1),aS2,cS2,aD2,cD2,rfl,by omega,by omega,by(try dsimp only[ED,DV,Eg,Ei,Ej,F8,Eo,Eh,DY,EM,Du,DU,Dn,FB,HY,Ji]at hs ⊢);rw[OM,OM,←hy11,show y11.AB.xs.length=j by omega];exact hs⟩)
 refine A7 15 0 [0] [[oF],[o0,o0,o0,o0]] [BF ((i:Int)<(c.Aa.xs.length:Int))] [(4,.slice aS ((Ec c ch true i).length) cS),(HY c ch i aD cD)] rfl ⟨bf,Ag⟩ ?_
 refine AX [] [] (.tuple #[.slice aS ((Ec c ch true i).length) cS,.slice aD ((Ec c ch false i).length) cD]) Ag ?_
 intro w33 hw33
 have e0:i=c.Aa.xs.length:=by omega
 subst e0
 refine⟨_,_,_,_,rfl,hz ▸ Ql (fun _=>rfl) (hw33.at (i:=2) rfl) (by unfold Ce;omega),hz ▸ Ql (fun _=>rfl) (hw33.at (i:=3) rfl) (by unfold Ce;omega),BC hw33⟩
section
variable (z:Nat)(c:Aj)(b11 o12:Nat)(b27 o28:Nat)
abbrev Jw:=bk z (Aj.arr c) 26
abbrev Qu:CO:=(30,.slice (some ⟨b11,o12,none⟩) c.Aa.xs.length c.Aa.cap)
abbrev MF:CO:=(42,.slice (some ⟨b27,o28,none⟩) c.Am.xs.length c.Am.cap)
abbrev MZ:CO:=(30,.slice c.Aa.a c.Aa.xs.length c.Aa.cap)
abbrev Om:CO:=(42,.slice c.Am.a c.Am.xs.length c.Am.cap)
abbrev JS:=(31,Ac c.Aa.xs.length)
abbrev IY:=(43,Ac c.Am.xs.length)
end
theorem VT(w:World)(c:Aj)(hc:Aj.ok Any w c):Calls Tryd.prog 37 #[.agg (Aj.arr c)] w fun e w'=>e = .returned (.bool (EG c))∧CJ (fun _=>False) w w':=by
 obtain⟨z,hz⟩:∃ z,z=w.heap.size:=⟨_,rfl⟩
 refine BP (args:=[.agg (Aj.arr c)]) 82 ⟨w,z,[(Ak w)]⟩ Tryd.func37 rfl (by kernel_rfl) (by kernel_rfl) (EQ hz) ?_
 have hlC:=hc.Am.1.len
 refine DZ [0] [(0,.agg (Aj.arr c))] ?_
 refine q_c 6 0 [] [[o0,o0]] [] [(1,pt z)] ⟨w,z+1,[(Ak w),(Jw z c)]⟩ rfl Ag ?_
 by_cases h1:(c.Kernel:Int)<0
 ·refine A7 9 0 [1] [[o0,(a1 1),oT,o0,o0,o0,o0,o0,o0],[o0]] [Qb z,BT ((c.Kernel:Int)<0)] [(2,.bool false)] rfl ⟨rfl,bt,Ag⟩ ?_
  refine AX [] [] (.bool false) Ag ?_
  intro w2 hw2
  refine⟨congrArg (fun b=>Ending.returned (Value.bool b)) (Eq.symm (?_:EG c=false)),BC hw2⟩
  exact RI (by omega)
 by_cases h3:(c.Kernel:Int)<1024
 ·by_cases h4:(8:Int)<(c.Aa.xs.length:Int)
  ·refine A7 9 0 [1] [[o0,(a1 1),oF,o0,o0,(a1 1),oF,o0,o0,o0,(a1 1),o0,oT,o0,o0,o0],[o0]] [Qb z,BF ((c.Kernel:Int)<0),Qb z,BF ((c.Kernel:Int)≥1024),Qb z,BT ((c.Aa.xs.length:Int) > 8)] [(2,.bool false)] rfl ⟨rfl,bf,rfl,bf,rfl,bt,Ag⟩ ?_
   refine AX [] [] (.bool false) Ag ?_
   intro w5 hw5
   refine⟨congrArg (fun b=>Ending.returned (Value.bool b)) (Eq.symm (?_:EG c=false)),BC hw5⟩
   exact RI (by omega)
  by_cases h6:(16:Int)<(c.Am.xs.length:Int)
  ·refine A7 9 0 [1] [[o0,(a1 1),oF,o0,o0,(a1 1),oF,o0,o0,o0,(a1 1),o0,oF,o0,o0,o0,(a1 1),o0,oT,o0],[o0]] [Qb z,BF ((c.Kernel:Int)<0),Qb z,BF ((c.Kernel:Int)≥1024),Qb z,BF ((c.Aa.xs.length:Int) > 8),Qb z,BT ((c.Am.xs.length:Int) > 16)] [(2,.bool false)] rfl ⟨rfl,bf,rfl,bf,rfl,bf,rfl,bt,Ag⟩ ?_
   refine AX [] [] (.bool false) Ag ?_
   intro w7 hw7
   refine⟨congrArg (fun b=>Ending.returned (Value.bool b)) (Eq.symm (?_:EG c=false)),BC hw7⟩
   exact RI (by omega)
  refine A7 12 0 [0] [[o0,(a1 1),oF,o0,o0,(a1 1),oF,o0,o0,o0,(a1 1),o0,oF,o0,o0,o0,(a1 1),o0,oF,o0],[o0,(a1 1),o0,o0]] [Qb z,BF ((c.Kernel:Int)<0),Qb z,BF ((c.Kernel:Int)≥1024),Qb z,BF ((c.Aa.xs.length:Int) > 8),Qb z,BF ((c.Am.xs.length:Int) > 16),Qb z] [(1,pt z),(MZ c),(JS c),(32,i6 0)] rfl ⟨rfl,bf,rfl,bf,rfl,bf,rfl,bf,rfl,Ag⟩ ?_
  refine DW (fun m a w'=>∃ (n9:Nat) (k:Nat),m=c.Aa.xs.length - k∧z+1≤n9∧(k≤c.Aa.xs.length)∧(∀ i,i<k→EN c.Am.xs.length (gd c.Aa.xs i)=true)∧St 82 [(1,pt z),(MZ c),(JS c),(32,Ac k)] [] ⟨w,n9,[(Ak w),(Jw z c)]⟩ a w') (c.Aa.xs.length - 0) ?_ ?_
  ·intro a w' hs;exact⟨(z+1),0,rfl,Nat.le_refl _,Nat.zero_le _,fun i hi=>absurd hi (Nat.not_lt_zero i),hs⟩
  rintro m a w' ⟨n9,k,rfl,hn8,hkk,hp,hs⟩
  refine(?_:G Tryd.prog 82 [(1,pt z),(MZ c),(JS c),(32,Ac k)] [] ⟨w,n9,[(Ak w),(Jw z c)]⟩ _ _ _) a w' hs
  clear hs a w'
  refine DC ?_
  by_cases h10:(k:Int)<(c.Aa.xs.length:Int)
  ·refine A7 10 0 [1] [[oT]] [BT ((k:Int)<(c.Aa.xs.length:Int))] [(1,pt z),(MZ c),(JS c),(32,Ac k),(33,.bool true)] rfl ⟨bt,Ag⟩ ?_
   obtain⟨b11,o12,ha13,hF15,hc14⟩:=(hc.Aa).1.all (show 0<c.Aa.xs.length by omega)
   replace ha13:c.Aa.a=some ⟨b11,o12,none⟩:=ha13
   refine IM [(1,pt z),(Qu c b11 o12),(JS c),(32,Ac k),(33,.bool true)] (by(try dsimp only[Jw,Qu,MZ,JS]);simp only[ha13]) ?_
   have hc16:=hc14 k (show k<c.Aa.xs.length by omega)
   have he17:=(hc.Aa).2 k (show k<c.Aa.xs.length by omega)
   obtain⟨y18,hy18⟩:∃ y_,y_=gd c.Aa.xs k:=⟨_,rfl⟩
   rw[←hy18]at he17 hc16
   refine q_c 5 2 [] [[(oi k),(ol 0 (Ar.arr y18)),o0,(an 8 2)],[(an 7 1),(an 8 2)]] [Ed k,k<c.Aa.xs.length,Dt,Ie w b11 (o12+k*8) (Ar.arr y18),Qb n9,Qb n9,Qb n9,Qb n9,Qb n9,Qb n9,Qb n9,Qb n9,Qb z,Qb z,Qb z,Qb z,Qb z,Qb z,Qb z,Qb n9,Qb n9,Qb n9,Qb n9,Qb n9,Qb n9,Qb n9,Qb n9] [(1,pt z),(Qu c b11 o12),(JS c),(32,Ac k),(36,.agg (Aj.arr c)),(37,.agg (Ar.arr y18))] ⟨w,n9+1,[(Ak w),(Jw z c),(bk n9 (Ar.arr y18) 52)]⟩ rfl ⟨rfl,(by omega),rfl,EL hc16,rfl,rfl,rfl,rfl,rfl,rfl,rfl,rfl,rfl,rfl,rfl,rfl,rfl,rfl,rfl,rfl,rfl,rfl,rfl,rfl,rfl,rfl,rfl,Ag⟩ ?_
   refine Bz 76 #[.agg (Aj.arr c),.agg (Ar.arr y18)] (some 38) (.bool (EN c.Am.xs.length y18)) (fun w19 hw19=>Oh w19 c y18 (hc.ext (hw19.ext rfl) (fun _ h=>h)) (he17.ext (hw19.ext rfl) (fun _ h=>h))) (fun n20 (hn21:n9+1≤n20) => ?_)
   refine Dz [1,30,31,32,38] [(1,pt z),(Qu c b11 o12),(JS c),(32,Ac k),(38,.bool (EN c.Am.xs.length y18))] ?_
   by_cases h22:(EN c.Am.xs.length y18)=true
   ·refine BQ 8 0 [0] [[(ov (.bool false))],[(ov (i6 ((k+1:Nat):Int))),o0]] [Value.bool (!(EN c.Am.xs.length y18))=Value.bool false,Wr ((k:Int)+1) (((k+1:Nat):Int))] [(1,pt z),(Qu c b11 o12),(JS c),(32,i6 ((k+1:Nat):Int))] rfl ⟨by simp[h22],CU,Ag⟩ ?_
    refine Cc [0,1] [(Ak w),(Jw z c)] rfl rfl ?_
    refine Fj [1,30,31,32] [(1,pt z),(MZ c),(JS c),(32,i6 ((k+1:Nat):Int))] (by(try dsimp only[Jw,Qu,MZ,JS]);simp only[ha13];rfl) ?_
    refine Cj (fun a w' hs=>⟨c.Aa.xs.length - (k+1),by omega,n20,(k+1),rfl,by omega,by omega,upto hp (by rw[←hy18];exact h22),hs⟩)
   refine BQ 8 0 [1] [[(ov (.bool true))],[o0]] [Value.bool (!(EN c.Am.xs.length y18))=Value.bool true] [(2,.bool false)] rfl ⟨by simp[h22],Ag⟩ ?_
   refine AX [] [] (.bool false) Ag ?_
   intro w23 hw23
   refine⟨congrArg (fun b=>Ending.returned (Value.bool b)) (Eq.symm (?_:EG c=false)),BC hw23⟩
   exact ZJ (k:=k) (by omega) (by rw[←hy18];exact Bool.eq_false_iff.2 h22)
  refine A7 16 0 [0] [[oF],[o0,(a1 1),o0,o0]] [BF ((k:Int)<(c.Aa.xs.length:Int)),Qb z] [(1,pt z),(Om c),(IY c),(44,i6 0)] rfl ⟨bf,rfl,Ag⟩ ?_
  refine DW (fun m a w'=>∃ (n25:Nat) (k2:Nat),m=c.Am.xs.length - k2∧n9≤n25∧(k2≤c.Am.xs.length)∧(∀ i,i<k2→LW c i=true)∧St 82 [(1,pt z),(Om c),(IY c),(44,Ac k2)] [] ⟨w,n25,[(Ak w),(Jw z c)]⟩ a w') (c.Am.xs.length - 0) ?_ ?_
  ·intro a w' hs;exact⟨n9,0,rfl,Nat.le_refl _,Nat.zero_le _,fun i hi=>absurd hi (Nat.not_lt_zero i),hs⟩
  rintro m a w' ⟨n25,k2,rfl,hn24,hkk2,hch,hs⟩
  refine(?_:G Tryd.prog 82 [(1,pt z),(Om c),(IY c),(44,Ac k2)] [] ⟨w,n25,[(Ak w),(Jw z c)]⟩ _ _ _) a w' hs
  clear hs a w'
  refine DC ?_
  by_cases h26:(k2:Int)<(c.Am.xs.length:Int)
  ·refine A7 10 0 [1] [[oT]] [BT ((k2:Int)<(c.Am.xs.length:Int))] [(1,pt z),(Om c),(IY c),(44,Ac k2),(45,.bool true)] rfl ⟨bt,Ag⟩ ?_
   obtain⟨b27,o28,ha29,hF31,hc30⟩:=(hc.Am).1.all (show 0<c.Am.xs.length by omega)
   replace ha29:c.Am.a=some ⟨b27,o28,none⟩:=ha29
   refine IM [(1,pt z),(MF c b27 o28),(IY c),(44,Ac k2),(45,.bool true)] (by(try dsimp only[Jw,Qu,MF,MZ,Om,JS,IY]);simp only[ha29]) ?_
   have hc32:=hc30 k2 (show k2<c.Am.xs.length by omega)
   have he33:=(hc.Am).2 k2 (show k2<c.Am.xs.length by omega)
   obtain⟨y34,hy34⟩:∃ y_,y_=gd c.Am.xs k2:=⟨_,rfl⟩
   rw[←hy34]at he33 hc32
   have hsb:=Qs y34;have hsp:=IU y34;have hec1:=P8 c k2 true;have hec2:=P8 c k2 false
   refine q_c 5 2 [] [[o0,(oi k2),(ol 0 (BH.arr y34)),o0,o0,(an 3 2)],[(an 7 1),o0]] [Ed k2,k2<c.Am.xs.length,Dt,Ie w b27 (o28+k2*3) (BH.arr y34),Qb n25,Qb n25,Qb n25,Qb z,Qb z,Qb z,Qb z,Qb z,Qb z,Qb z] [(1,pt z),(MF c b27 o28),(IY c),(44,Ac k2),(6,pt n25),(50,.agg (Aj.arr c)),(51,Ac k2)] ⟨w,n25+1,[(Ak w),(Jw z c),(bk n25 (BH.arr y34) 115)]⟩ rfl ⟨rfl,(by omega),rfl,EL hc32,rfl,rfl,rfl,rfl,rfl,rfl,rfl,rfl,rfl,rfl,Ag⟩ ?_
   refine l_call [] [] 39 #[.agg (Aj.arr c),Ac k2] (some 52) Ag ?_
   intro w35 hw35
   refine(Oz w35 c (k2:Int) (hc.ext (hw35.ext rfl) (fun _ h=>h)) (by omega) (fun i hi=>Py (hp i (by omega)))).mono ?_
   rintro e w36 ⟨ax37,cp38,ax39,cp40,rfl,hSw36,hDw36,hkw36⟩
   have hnw36:n25+1≤w36.heap.size:=EO hw35 hkw36
   rw[hw35.size]at hSw36 hDw36
   refine⟨_,_,rfl,hw35.RV hkw36, ?_⟩
   refine BQ 5 1 [] [[o0,o0,o0,o0,o0],[(an 3 2)]] [Qb n25,Qb n25,Qb n25] [(1,pt z),(MF c b27 o28),(IY c),(44,Ac k2),(6,pt n25),(7,.slice ax37 ((Ce c (k2:Int) true).length) cp38),(8,.slice ax39 ((Ce c (k2:Int) false).length) cp40),(55,.agg (BH.arr y34))] rfl ⟨rfl,rfl,rfl,Ag⟩ ?_
   refine Bz 40 #[.agg (BH.arr y34)] (some 56) (i6 (BO y34)) (fun w41 hw41=>MX w41 y34 (he33.ext (hw41.ext rfl) (fun _ h=>h))) (fun n42 (hn43:w36.heap.size≤n42) => ?_)
   refine Dz [1,42,43,44,6,7,8,56] [(1,pt z),(MF c b27 o28),(IY c),(44,Ac k2),(6,pt n25),(7,.slice ax37 ((Ce c (k2:Int) true).length) cp38),(8,.slice ax39 ((Ce c (k2:Int) false).length) cp40),(56,i6 (BO y34))] ?_
   by_cases h44:(BO y34:Int)=0
   ·refine BQ 8 0 [1] [[oT,o0,o0],[o0]] [ET (BO y34) 0] [(2,.bool false)] rfl ⟨et,Ag⟩ ?_
    refine AX [] [] (.bool false) Ag ?_
    intro w45 hw45
    refine⟨congrArg (fun b=>Ending.returned (Value.bool b)) (Eq.symm (?_:EG c=false)),BC hw45⟩
    exact Mc (k:=k2) (by omega) (NP (by rw[←hy34];first | omega | (left;exact(IU _).1 (by omega))))
   by_cases h46:(y34.Kind:Int)=1
   ·by_cases h47:(y34.Dq:Int)=0
    ·refine BQ 6 0 [0] [[oF,o0,o0,(a1 2),oT,o0,o0,(a1 2),oF,o0,o0]] [EF (BO y34) 0,Qb n25,ET y34.Kind 1,Qb n25,NF y34.Dq 0] [(1,pt z),(MF c b27 o28),(IY c),(44,Ac k2),(7,.slice ax37 ((Ce c (k2:Int) true).length) cp38),(8,.slice ax39 ((Ce c (k2:Int) false).length) cp40),(67,.bool false)] rfl ⟨ef,rfl,et,rfl,nf,Ag⟩ ?_
     by_cases h48:((((Ce c (k2:Int) true).length:Nat):Int):Int)=1
     ·by_cases h49:((((Ce c (k2:Int) false).length:Nat):Int):Int)<1
      ·refine A7 9 0 [1] [[o0,o0,oF,o0,o0,o0,oT,o0,o0,o0],[o0]] [NF (((Ce c (k2:Int) true).length:Nat):Int) 1,BT (((((Ce c (k2:Int) false).length:Nat):Int):Int)<1)] [(2,.bool false)] rfl ⟨nf,bt,Ag⟩ ?_
       refine AX [] [] (.bool false) Ag ?_
       intro w50 hw50
       refine⟨congrArg (fun b=>Ending.returned (Value.bool b)) (Eq.symm (?_:EG c=false)),BC hw50⟩
       exact Mc (k:=k2) (by omega) (NP (by rw[←hy34];first | omega | (left;exact(IU _).1 (by omega))))
      by_cases h51:(4:Int)<(((Ce c (k2:Int) false).length:Nat):Int)
      ·refine A7 9 0 [1] [[o0,o0,oF,o0,o0,o0,oF,o0,o0,o0,o0,oT,o0],[o0]] [NF (((Ce c (k2:Int) true).length:Nat):Int) 1,BF (((((Ce c (k2:Int) false).length:Nat):Int):Int)<1),BT (((((Ce c (k2:Int) false).length:Nat):Int):Int) > 4)] [(2,.bool false)] rfl ⟨nf,bf,bt,Ag⟩ ?_
       refine AX [] [] (.bool false) Ag ?_
       intro w52 hw52
       refine⟨congrArg (fun b=>Ending.returned (Value.bool b)) (Eq.symm (?_:EG c=false)),BC hw52⟩
       exact Mc (k:=k2) (by omega) (NP (by rw[←hy34];first | omega | (left;exact(IU _).1 (by omega))))
      refine A7 9 0 [0] [[o0,o0,oF,o0,o0,o0,oF,o0,o0,o0,o0,oF,o0],[(ov (i6 ((k2+1:Nat):Int))),o0]] [NF (((Ce c (k2:Int) true).length:Nat):Int) 1,BF (((((Ce c (k2:Int) false).length:Nat):Int):Int)<1),BF (((((Ce c (k2:Int) false).length:Nat):Int):Int) > 4),Wr ((k2:Int)+1) (((k2+1:Nat):Int))] [(1,pt z),(MF c b27 o28),(IY c),(44,i6 ((k2+1:Nat):Int))] rfl ⟨nf,bf,bf,CU,Ag⟩ ?_
      refine Cc [0,1] [(Ak w),(Jw z c)] rfl rfl ?_
      refine Fj [1,42,43,44] [(1,pt z),(Om c),(IY c),(44,i6 ((k2+1:Nat):Int))] (by(try dsimp only[Jw,MF,MZ,Om,JS,IY]);simp only[ha29];rfl) ?_
      refine Cj (fun a w' hs=>⟨c.Am.xs.length - (k2+1),by omega,n42,(k2+1),rfl,by omega,by omega,upto hch (Xb (by rw[←hy34];intro e;exact absurd (hsp.2 e) (by omega)) (by rw[←hy34];omega) (by omega) (by omega)),hs⟩)
     refine A7 9 0 [1] [[o0,o0,oT,o0,o0,o0,o0],[o0]] [NT (((Ce c (k2:Int) true).length:Nat):Int) 1] [(2,.bool false)] rfl ⟨nt,Ag⟩ ?_
     refine AX [] [] (.bool false) Ag ?_
     intro w53 hw53
     refine⟨congrArg (fun b=>Ending.returned (Value.bool b)) (Eq.symm (?_:EG c=false)),BC hw53⟩
     exact Mc (k:=k2) (by omega) (NP (by rw[←hy34];first | omega | (left;exact(IU _).1 (by omega))))
    refine BQ 8 0 [1] [[oF,o0,o0,(a1 2),oT,o0,o0,(a1 2),oT,o0,o0],[o0]] [EF (BO y34) 0,Qb n25,ET y34.Kind 1,Qb n25,NT y34.Dq 0] [(2,.bool false)] rfl ⟨ef,rfl,et,rfl,nt,Ag⟩ ?_
    refine AX [] [] (.bool false) Ag ?_
    intro w54 hw54
    refine⟨congrArg (fun b=>Ending.returned (Value.bool b)) (Eq.symm (?_:EG c=false)),BC hw54⟩
    exact Mc (k:=k2) (by omega) (NP (by rw[←hy34];first | omega | (left;exact(IU _).1 (by omega))))
   refine BQ 6 0 [0] [[oF,o0,o0,(a1 2),oF,o0,o0,o0]] [EF (BO y34) 0,Qb n25,EF y34.Kind 1] [(1,pt z),(MF c b27 o28),(IY c),(44,Ac k2),(7,.slice ax37 ((Ce c (k2:Int) true).length) cp38),(8,.slice ax39 ((Ce c (k2:Int) false).length) cp40),(67,.bool false)] rfl ⟨ef,rfl,ef,Ag⟩ ?_
   by_cases h55:((((Ce c (k2:Int) true).length:Nat):Int):Int)=1
   ·by_cases h56:((((Ce c (k2:Int) false).length:Nat):Int):Int)<1
    ·refine A7 9 0 [1] [[o0,o0,oF,o0,o0,o0,oT,o0,o0,o0],[o0]] [NF (((Ce c (k2:Int) true).length:Nat):Int) 1,BT (((((Ce c (k2:Int) false).length:Nat):Int):Int)<1)] [(2,.bool false)] rfl ⟨nf,bt,Ag⟩ ?_
     refine AX [] [] (.bool false) Ag ?_
     intro w57 hw57
     refine⟨congrArg (fun b=>Ending.returned (Value.bool b)) (Eq.symm (?_:EG c=false)),BC hw57⟩
     exact Mc (k:=k2) (by omega) (NP (by rw[←hy34];first | omega | (left;exact(IU _).1 (by omega))))
    by_cases h58:(4:Int)<(((Ce c (k2:Int) false).length:Nat):Int)
    ·refine A7 9 0 [1] [[o0,o0,oF,o0,o0,o0,oF,o0,o0,o0,o0,oT,o0],[o0]] [NF (((Ce c (k2:Int) true).length:Nat):Int) 1,BF (((((Ce c (k2:Int) false).length:Nat):Int):Int)<1),BT (((((Ce c (k2:Int) false).length:Nat):Int):Int) > 4)] [(2,.bool false)] rfl ⟨nf,bf,bt,Ag⟩ ?_
     refine AX [] [] (.bool false) Ag ?_
     intro w59 hw59
     refine⟨congrArg (fun b=>Ending.returned (Value.bool b)) (Eq.symm (?_:EG c=false)),BC hw59⟩
     exact Mc (k:=k2) (by omega) (NP (by rw[←hy34];first | omega | (left;exact(IU _).1 (by omega))))
    refine A7 9 0 [0] [[o0,o0,oF,o0,o0,o0,oF,o0,o0,o0,o0,oF,o0],[(ov (i6 ((k2+1:Nat):Int))),o0]] [NF (((Ce c (k2:Int) true).length:Nat):Int) 1,BF (((((Ce c (k2:Int) false).length:Nat):Int):Int)<1),BF (((((Ce c (k2:Int) false).length:Nat):Int):Int) > 4),Wr ((k2:Int)+1) (((k2+1:Nat):Int))] [(1,pt z),(MF c b27 o28),(IY c),(44,i6 ((k2+1:Nat):Int))] rfl ⟨nf,bf,bf,CU,Ag⟩ ?_
    refine Cc [0,1] [(Ak w),(Jw z c)] rfl rfl ?_
    refine Fj [1,42,43,44] [(1,pt z),(Om c),(IY c),(44,i6 ((k2+1:Nat):Int))] (by(try dsimp only[Jw,MF,MZ,Om,JS,IY]);simp only[ha29];rfl) ?_
    refine Cj (fun a w' hs=>⟨c.Am.xs.length - (k2+1),by omega,n42,(k2+1),rfl,by omega,by omega,upto hch (Xb (by rw[←hy34];intro e;exact absurd (hsp.2 e) (by omega)) (by rw[←hy34];omega) (by omega) (by omega)),hs⟩)
   refine A7 9 0 [1] [[o0,o0,oT,o0,o0,o0,o0],[o0]] [NT (((Ce c (k2:Int) true).length:Nat):Int) 1] [(2,.bool false)] rfl ⟨nt,Ag⟩ ?_
   refine AX [] [] (.bool false) Ag ?_
   intro w60 hw60
   refine⟨congrArg (fun b=>Ending.returned (Value.bool b)) (Eq.symm (?_:EG c=false)),BC hw60⟩
   exact Mc (k:=k2) (by omega) (NP (by rw[←hy34];first | omega | (left;exact(IU _).1 (by omega))))
  refine A7 15 0 [0] [[oF],[o0]] [BF ((k2:Int)<(c.Am.xs.length:Int))] [(2,.bool true)] rfl ⟨bf,Ag⟩ ?_
  refine AX [] [] (.bool true) Ag ?_
  intro w61 hw61
  refine⟨congrArg (fun b=>Ending.returned (Value.bool b)) (Eq.symm (?_:EG c=true)),BC hw61⟩
  exact ZX (by omega) (by omega) (by omega) (fun i hi=>hp i (by omega)) (fun i hi=>hch i (by omega))
 refine A7 9 0 [1] [[o0,(a1 1),oF,o0,o0,(a1 1),oT,o0,o0,o0,o0,o0],[o0]] [Qb z,BF ((c.Kernel:Int)<0),Qb z,BT ((c.Kernel:Int)≥1024)] [(2,.bool false)] rfl ⟨rfl,bf,rfl,bt,Ag⟩ ?_
 refine AX [] [] (.bool false) Ag ?_
 intro w62 hw62
 refine⟨congrArg (fun b=>Ending.returned (Value.bool b)) (Eq.symm (?_:EG c=false)),BC hw62⟩
 exact RI (by omega)
def LZ(g:BJ)(n:Nat):List Nat:=(List.range n).map (fun(k:Nat)=>((g.C9+(k:Int)) / 16).toNat)
def EC(x:Ar)(i:Nat):List Nat:=(List.range i).flatMap (fun r=>LZ (gd x.Ah.xs r) (gd x.Ah.xs r).BG.toNat)
def I9(l:List Nat):Array Value:=((List.range 16).map (fun t=>Value.bool (l.contains t))).toArray
theorem Sz(l:List Nat):(I9 l).size=16:=by simp[I9]
theorem V7(l:List Nat){t:Nat}(h:t<16):(I9 l)[t]? = some (Value.bool (l.contains t)):=by simp[I9,h]
theorem YY(l:List Nat)(t:Nat):I9 (l++[t])=(I9 l).setIfInBounds t (.bool true):=by
 apply Array.ext_getElem?
 intro i
 rw[Array.getElem?_setIfInBounds,Sz]
 by_cases hi:i<16
 ·rw[V7 _ hi,V7 _ hi]
  by_cases e:t=i
  ·subst e;simp[hi]
  rw[if_neg e]
  simp[Ne.symm e]
 have h1:∀ l,(I9 l)[i]? = none:=fun l=>Array.getElem?_eq_none (by rw[Sz];omega)
 rw[h1,h1]
 by_cases e:t=i
 ·subst e;simp[hi]
 simp[e]
theorem X4{g:BJ}{k:Nat}:LZ g (k+1)=LZ g k++[((g.C9+(k:Int)) / 16).toNat]:=by
 unfold LZ;rw[List.range_succ,List.map_append];rfl
theorem X3{x:Ar}{i:Nat}:EC x (i+1)=EC x i++LZ (gd x.Ah.xs i) (gd x.Ah.xs i).BG.toNat:=by
 unfold EC;rw[List.range_succ,List.flatMap_append];simp
def Jq(x:Ar):Nat:=(List.range 16).countP (fun t=>(EC x x.Ah.xs.length).contains t)
theorem VY{p:Nat→Bool}{j:Nat}:(List.range (j+1)).countP p=(List.range j).countP p+if p j then 1 else 0:=by
 rw[List.range_succ,List.countP_append];simp[List.countP_singleton]
theorem Uo(x:Ar):Jq x≤16:=Nat.le_trans List.countP_le_length (by simp)
theorem blk_row{b:Nat}{c:Array Value}{t:TypeId}{r:Bool}:RowOf (.blk b (.cells c t (0,0)) r) b 0 c:=fun w hw i v hv=>by
 have hw':w.heap[b]? = some (.cells c t (0,0)):=hw
 simp only[World.cell?,hw',Nat.zero_add];simpa using hv
section
variable (n2:Nat)(y11:BJ)(z:Nat)(x:Ar)(j b4 o5:Nat)(w:World)
abbrev Na:=bk n2 (BJ.arr y11) 103
abbrev Jo:=bk z (Ar.arr x) 52
abbrev UX:=(7,i6 ((((List.range j).countP (fun t=>(EC x x.Ah.xs.length).contains t))+1:Nat):Int))
abbrev Q4:=(7,i6 (((List.range j).countP (fun t=>(EC x x.Ah.xs.length).contains t):Nat):Int))
abbrev KA:CO:=(11,.slice (some ⟨b4,o5,none⟩) x.Ah.xs.length x.Ah.cap)
abbrev KQ:CO:=(11,.slice x.Ah.a x.Ah.xs.length x.Ah.cap)
abbrev IC:=(12,Ac x.Ah.xs.length)
abbrev Ol:CO:=(30,.agg (I9 (EC x x.Ah.xs.length)))
abbrev II:=(3,pt (z+1))
abbrev UA:=[(Ak w),(Jo z x),(bk (z+1) (I9 (EC x x.Ah.xs.length)) 142)]
end
theorem Xg(w:World)(x:Ar)(hx:Ar.ok Any w x)(hr:∀ i,i<x.Ah.xs.length→Ov (gd x.Ah.xs i)=true):Calls Tryd.prog 42 #[.agg (Ar.arr x)] w fun e w'=>e = .returned (.int .i64 (Jq x:Nat))∧CJ (fun _=>False) w w':=by
 obtain⟨z,hz⟩:∃ z,z=w.heap.size:=⟨_,rfl⟩
 refine BP (args:=[.agg (Ar.arr x)]) 39 ⟨w,z,[(Ak w)]⟩ Tryd.func42 rfl (by kernel_rfl) (by kernel_rfl) (EQ hz) ?_
 have hlR:=hx.Ah.1.len
 refine DZ [0] [(0,.agg (Ar.arr x))] ?_
 refine q_c 14 0 [] [[o0,o0],[o0],[o0,(a1 1),o0,o0]] [Qb z] [(II z),(KQ x),(IC x),(13,i6 0)] ⟨w,z+2,[(Ak w),(Jo z x),(bk (z+1) #[.bool false,.bool false,.bool false,.bool false,.bool false,.bool false,.bool false,.bool false,.bool false,.bool false,.bool false,.bool false,.bool false,.bool false,.bool false,.bool false] 142)]⟩ rfl ⟨rfl,Ag⟩ ?_
 refine DW (fun m a w'=>∃ (n2:Nat) (i:Nat),m=x.Ah.xs.length - i∧z+2≤n2∧(i≤x.Ah.xs.length)∧St 39 [(II z),(KQ x),(IC x),(13,Ac i)] [] ⟨w,n2,[(Ak w),(Jo z x),(bk (z+1) (I9 (EC x i)) 142)]⟩ a w') (x.Ah.xs.length - 0) ?_ ?_
 ·intro a w' hs;exact⟨(z+2),0,rfl,Nat.le_refl _,Nat.zero_le _,hs⟩
 rintro m a w' ⟨n2,i,rfl,hn1,hki,hs⟩
 refine(?_:G Tryd.prog 39 [(II z),(KQ x),(IC x),(13,Ac i)] [] ⟨w,n2,[(Ak w),(Jo z x),(bk (z+1) (I9 (EC x i)) 142)]⟩ _ _ _) a w' hs
 clear hs a w'
 refine DC ?_
 by_cases h3:(i:Int)<(x.Ah.xs.length:Int)
 ·refine A7 10 0 [1] [[oT]] [BT ((i:Int)<(x.Ah.xs.length:Int))] [(II z),(KQ x),(IC x),(13,Ac i),(14,.bool true)] rfl ⟨bt,Ag⟩ ?_
  obtain⟨b4,o5,ha6,hF8,hc7⟩:=(hx.Ah).1.all (show 0<x.Ah.xs.length by omega)
  replace ha6:x.Ah.a=some ⟨b4,o5,none⟩:=ha6
  refine IM [(II z),(KA x b4 o5),(IC x),(13,Ac i),(14,.bool true)] (by(try dsimp only[Jo,KA,KQ,IC,II]);simp only[ha6]) ?_
  have hc9:=hc7 i (show i<x.Ah.xs.length by omega)
  have he10:=(hx.Ah).2 i (show i<x.Ah.xs.length by omega)
  obtain⟨y11,hy11⟩:∃ y_,y_=gd x.Ah.xs i:=⟨_,rfl⟩
  rw[←hy11]at he10 hc9
  have hrg:=hr i (by omega);rw[←hy11]at hrg;unfold Ov at hrg;rw[decide_eq_true_eq]at hrg
  refine q_c 8 0 [] [[(oi i),(ol 0 (BJ.arr y11)),o0,(an 4 3)],[o0,(a1 3),o0]] [Ed i,i<x.Ah.xs.length,Dt,Ie w b4 (o5+i*4) (BJ.arr y11),Qb n2,Qb n2,Qb n2,Qb n2,Qb n2] [(II z),(5,pt n2),(KA x b4 o5),(IC x),(13,Ac i),(18,i6 y11.BG),(19,i6 0)] ⟨w,n2+1,[(Ak w),(Jo z x),(bk (z+1) (I9 (EC x i)) 142),(Na n2 y11)]⟩ rfl ⟨rfl,(by omega),rfl,EL hc9,rfl,rfl,rfl,rfl,rfl,Ag⟩ ?_
  refine DW (fun m a w'=>∃ (n13:Nat) (k:Nat),m=y11.BG.toNat - k∧n2+1≤n13∧(k≤y11.BG.toNat)∧St 39 [(II z),(5,pt n2),(KA x b4 o5),(IC x),(13,Ac i),(18,i6 y11.BG),(19,Ac k)] [] ⟨w,n13,[(Ak w),(Jo z x),(bk (z+1) (I9 (EC x i++LZ y11 k)) 142),(Na n2 y11)]⟩ a w') (y11.BG.toNat - 0) ?_ ?_
  ·intro a w' hs;exact⟨(n2+1),0,rfl,Nat.le_refl _,Nat.zero_le _,by(try dsimp only[Na,Jo,KA,KQ,IC,II]at hs ⊢);rw[show LZ y11 0=[]from rfl,List.append_nil];exact hs⟩
  rintro m a w' ⟨n13,k,rfl,hn12,hkk,hs⟩
  refine(?_:G Tryd.prog 39 [(II z),(5,pt n2),(KA x b4 o5),(IC x),(13,Ac i),(18,i6 y11.BG),(19,Ac k)] [] ⟨w,n13,[(Ak w),(Jo z x),(bk (z+1) (I9 (EC x i++LZ y11 k)) 142),(Na n2 y11)]⟩ _ _ _) a w' hs
  clear hs a w'
  refine DC ?_
  by_cases h14:(k:Int)<y11.BG
  ·refine q_c 19 0 [1] [[oT],[o0,o0],[o0,(a1 3),o0,(ov (i6 (y11.C9+(k:Int)))),(ov (i6 ((y11.C9+(k:Int)) / 16))),(oi (((y11.C9+(k:Int)) / 16).toNat)),(oa [.atv 2 undef])],[(ov (i6 ((k+1:Nat):Int))),o0]] [BT ((k:Int)<y11.BG),Qb n2,Wr ((y11.C9:Int)+(k:Int)) (y11.C9+(k:Int)),Wr (Int.tdiv (y11.C9+(k:Int)) 16) ((y11.C9+(k:Int)) / 16),((y11.C9+(k:Int)) / 16:Int)=((((y11.C9+(k:Int)) / 16).toNat:Nat):Int),((y11.C9+(k:Int)) / 16).toNat<16,Dt,Dt,Qb (z+1),0+(((y11.C9+(k:Int)) / 16).toNat)<(I9 (EC x i++LZ y11 k)).size,Wr ((k:Int)+1) (((k+1:Nat):Int))] [(II z),(5,pt n2),(KA x b4 o5),(IC x),(13,Ac i),(18,i6 y11.BG),(19,i6 ((k+1:Nat):Int))] ⟨w,n13,[(Ak w),(Jo z x),(Ch.blk (z+1) (.cells ((I9 (EC x i++LZ y11 k)).setIfInBounds (0+(((y11.C9+(k:Int)) / 16).toNat)) (.bool true)) 142 (0,0)) true),(Na n2 y11)]⟩ rfl ⟨bt,rfl,CU,congrArg (Value.int .i64) (SI (by omega) (by omega) (by omega)),(by omega),(by omega),rfl,rfl,rfl,(by rw[Sz];omega),CU,Ag⟩ ?_
   refine Cj (fun a w' hs=>⟨y11.BG.toNat - (k+1),by omega,n13,(k+1),rfl,by omega,by omega,by(try dsimp only[Na,Jo,KA,KQ,IC,II]at hs ⊢);rw[X4,←List.append_assoc,YY];simpa only[Nat.zero_add]using hs⟩)
  refine A7 13 0 [0] [[oF],[(ov (i6 ((i+1:Nat):Int))),o0]] [BF ((k:Int)<y11.BG),Wr ((i:Int)+1) (((i+1:Nat):Int))] [(II z),(KA x b4 o5),(IC x),(13,i6 ((i+1:Nat):Int))] rfl ⟨bf,CU,Ag⟩ ?_
  refine Cc [0,1,2] [(Ak w),(Jo z x),(bk (z+1) (I9 (EC x i++LZ y11 k)) 142)] rfl rfl ?_
  refine Fj [3,11,12,13] [(II z),(KQ x),(IC x),(13,i6 ((i+1:Nat):Int))] (by(try dsimp only[Na,Jo,KA,KQ,IC,II]);simp only[ha6];rfl) ?_
  refine Cj (fun a w' hs=>⟨x.Ah.xs.length - (i+1),by omega,n13,(i+1),rfl,by omega,by omega,by(try dsimp only[Na,Jo,KA,KQ,IC,II]at hs ⊢);rw[X3,←hy11,show y11.BG.toNat=k by omega];exact hs⟩)
 refine A7 20 0 [0] [[oF],[o0],[⟨.row 2 (I9 (EC x i)),none⟩,o0]] [BF ((i:Int)<(x.Ah.xs.length:Int)),RowOf (bk (z+1) (I9 (EC x i)) 142) (z+1) 0 (I9 (EC x i))] [(7,i6 0),(30,.agg (I9 (EC x i))),(31,i6 0)] rfl ⟨bf,blk_row,Ag⟩ ?_
 have e0:i=x.Ah.xs.length:=by omega
 subst e0
 refine DW (fun m a w'=>∃ (n16:Nat) (j:Nat),m=16 - j∧n2≤n16∧(j≤16)∧St 39 [(Q4 x j),(Ol x),(31,Ac j)] [] ⟨w,n16,(UA z x w)⟩ a w') (16 - 0) ?_ ?_
 ·intro a w' hs;exact⟨n2,0,rfl,Nat.le_refl _,Nat.zero_le _,hs⟩
 rintro m a w' ⟨n16,j,rfl,hn15,hkj,hs⟩
 refine(?_:G Tryd.prog 39 [(Q4 x j),(Ol x),(31,Ac j)] [] ⟨w,n16,(UA z x w)⟩ _ _ _) a w' hs
 clear hs a w'
 have hcl:(List.range j).countP (fun t=>(EC x x.Ah.xs.length).contains t)≤j:=Nat.le_trans List.countP_le_length (by simp)
 refine DC ?_
 by_cases h17:(j:Int)<16
 ·refine A7 17 0 [1] [[oT],[⟨.aidx j (.bool ((EC x x.Ah.xs.length).contains j)),none⟩,o0],[o0]] [BT ((j:Int)<16),Ed j,j<16,((I9 (EC x x.Ah.xs.length)):Array Value)[Ih 1 j]? = some (.bool ((EC x x.Ah.xs.length).contains j))] [(Q4 x j),(Ol x),(31,Ac j),(34,.bool ((EC x x.Ah.xs.length).contains j))] rfl ⟨bt,rfl,(by omega),(V7 (t:=j) _ (by omega)),Ag⟩ ?_
  by_cases h18:((EC x x.Ah.xs.length).contains j)=true
  ·refine A7 7 0 [3] [[o0,(ov (i6 ((((List.range j).countP (fun t=>(EC x x.Ah.xs.length).contains t))+1:Nat):Int))),o0],[(ov (i6 ((j+1:Nat):Int))),o0]] [Value.bool ((EC x x.Ah.xs.length).contains j)=Value.bool true,Wr (((((List.range j).countP (fun t=>(EC x x.Ah.xs.length).contains t):Nat):Int):Int)+1) (((((List.range j).countP (fun t=>(EC x x.Ah.xs.length).contains t))+1:Nat):Int)),Wr ((j:Int)+1) (((j+1:Nat):Int))] [(UX x j),(Ol x),(31,i6 ((j+1:Nat):Int))] rfl ⟨(congrArg Value.bool h18),CU,CU,Ag⟩ ?_
   have hT:=VY (p:=fun t=>(EC x x.Ah.xs.length).contains t) (j:=j)
   simp only[h18,if_true,if_false,Nat.add_zero]at hT
   refine BR [7,30,31] [(UX x j),(Ol x),(31,i6 ((j+1:Nat):Int))] ?_
   refine Cj (fun a w' hs=>⟨16 - (j+1),by omega,n16,(j+1),rfl,by omega,by omega,by(try dsimp only[Na,Jo,UX,Q4,KA,KQ,IC,Ol,II,UA]at hs ⊢);rw[hT];exact hs⟩)
  refine A7 6 0 [2] [[(ov (i6 ((j+1:Nat):Int))),o0]] [Value.bool ((EC x x.Ah.xs.length).contains j)=Value.bool false,Wr ((j:Int)+1) (((j+1:Nat):Int))] [(Q4 x j),(Ol x),(31,i6 ((j+1:Nat):Int))] rfl ⟨(congrArg Value.bool (Bool.eq_false_iff.2 h18)),CU,Ag⟩ ?_
  have hT:=VY (p:=fun t=>(EC x x.Ah.xs.length).contains t) (j:=j)
  simp only[(Bool.eq_false_iff.2 h18),Bool.false_eq_true,if_true,if_false,Nat.add_zero]at hT
  refine BR [7,30,31] [(Q4 x j),(Ol x),(31,i6 ((j+1:Nat):Int))] ?_
  refine Cj (fun a w' hs=>⟨16 - (j+1),by omega,n16,(j+1),rfl,by omega,by omega,by(try dsimp only[Na,Jo,UX,Q4,KA,KQ,IC,Ol,II,UA]at hs ⊢);rw[hT];exact hs⟩)
 refine A7 15 0 [0] [[oF],[o0,o0]] [BF ((j:Int)<16)] [(2,i6 (((List.range j).countP (fun t=>(EC x x.Ah.xs.length).contains t):Nat):Int))] rfl ⟨bf,Ag⟩ ?_
 refine AX [] [] (i6 (((List.range j).countP (fun t=>(EC x x.Ah.xs.length).contains t):Nat):Int)) Ag ?_
 intro w19 hw19
 refine⟨congrArg (fun n=>Ending.returned (i6 n)) (?_:((((List.range j).countP (fun t=>(EC x x.Ah.xs.length).contains t):Nat):Int):Int)=(Jq x:Int)),BC hw19⟩
 rw[show j=16 by omega];rfl
open Go Go.RowKit Go.Proofs.YtjdmhijaanmccaaDoor.Eng Go.Proofs.YtjdmhijaanmccaaDoor.Mem
def D7(c:Aj)(i:Nat):Int:=c.Kernel*16+2+24*(i:Int)
def VC(c:Aj)(i:Nat):AZ:=⟨D7 c i,D7 c i+2,D7 c i+2+17,0,⟨none,0,[]⟩⟩
def Gp(c:Aj)(i:Nat):List AZ:=(List.range i).map (VC c)
theorem Wu{c:Aj}{i:Nat}:Gp c (i+1)=Gp c i++[VC c i]:=by unfold Gp;rw[List.range_succ,List.map_append];rfl
theorem RS{c:Aj}{i:Nat}:(Gp c i).length=i:=by simp[Gp]
theorem SL{β:Type}[Inhabited β]{f:Nat→β}{n i:Nat}(h:i<n):gd ((List.range n).map f) i=f i:=by
 rw[Gq (by simpa using h)];simp
def Je(c:Aj)(k:Nat):Nat:=(Ce c (k:Int) false).length
def cLen(c:Aj)(k:Nat):Int:=2+BO (gd c.Am.xs k)+(Je c k:Int)*portOf (gd c.Am.xs k)
def Dw(c:Aj):Nat→Int
 | 0=>D7 c c.Aa.xs.length
 | k+1=>Dw c k+cLen c k
def JW(c:Aj)(k j:Nat):Int:=Dw c k+2+BO (gd c.Am.xs k)+(j:Int)*portOf (gd c.Am.xs k)
def Nj(c:Aj)(k d:Nat):CY:=⟨(gd (Ce c (k:Int) false) d).partition,(gd (Ce c (k:Int) false) d).port,JW c k d⟩
def Ee(c:Aj)(k j:Nat):List CY:=(List.range j).map (Nj c k)
theorem Xo{c:Aj}{k j:Nat}:Ee c k (j+1)=Ee c k j++[Nj c k j]:=by unfold Ee;rw[List.range_succ,List.map_append];rfl
theorem QE{c:Aj}{k j:Nat}:(Ee c k j).length=j:=by simp[Ee]
theorem Z5{c:Aj}{k j:Nat}:JW c k (j+1)=JW c k j+portOf (gd c.Am.xs k):=by
 unfold JW;rw[show((j+1:Nat):Int)=(j:Int)+1 from by omega,Int.add_mul];omega
theorem ZN{c:Aj}{k:Nat}:Dw c (k+1)=JW c k (Je c k):=by unfold JW;rw[Dw,cLen];omega
def Jc(c:Aj)(k:Nat)(s:Sl CY):Ci:=⟨Dw c k,Dw c k+2,(gd (Ce c (k:Int) true) 0).partition,(gd (Ce c (k:Int) true) 0).port,s⟩
def QV(c:Aj):Int:=(Dw c c.Am.xs.length+16 - 1) / 16
def EE(c:Aj):Nat→Int
 | 0=>QV c
 | i+1=>EE c i+1+(Jq (gd c.Aa.xs i):Int)
def Fa(c:Aj)(i n:Nat):List Int:=(List.range n).map (fun(k:Nat)=>EE c i+1+(k:Int))
theorem X5{c:Aj}{i n:Nat}:Fa c i (n+1)=Fa c i n++[EE c i+1+(n:Int)]:=by unfold Fa;rw[List.range_succ,List.map_append];rfl
theorem RF{c:Aj}{i n:Nat}:(Fa c i n).length=n:=by simp[Fa]
def H7(c:Aj)(i:Nat)(s:Sl Int):AZ:=⟨D7 c i,D7 c i+2,D7 c i+2+17,EE c i,s⟩
structure Fine(c:Aj):Prop where
 kn:0≤c.Kernel∧c.Kernel<1024
 pn:c.Aa.xs.length≤8
 cn:c.Am.xs.length≤16
 parts:∀ i,i<c.Aa.xs.length→EN c.Am.xs.length (gd c.Aa.xs i)=true
 chans:∀ i,i<c.Am.xs.length→LW c i=true
theorem TG{c:Aj}(h:EG c=true):Fine c:=by
 unfold EG at h
 simp only[Bool.and_eq_true,decide_eq_true_eq,List.all_eq_true,List.mem_range]at h
 exact⟨h.1.1.1.1,h.1.1.1.2,h.1.1.2,fun i hi=>h.1.2 _ (by rw[Gq hi];exact List.getElem_mem hi),h.2⟩
theorem Fine.Ye{c:Aj}(h:Fine c){k:Nat}(hk:k<c.Am.xs.length):(Ce c (k:Int) true).length=1∧1≤Je c k∧Je c k≤4:=by
 have:=h.chans k hk
 unfold LW at this
 simp only[Bool.and_eq_true,decide_eq_true_eq]at this
 have e1:=P8 c k true
 have e2:=P8 c k false
 unfold Je
 omega
theorem XI{c:Aj}(h:Fine c){k:Nat}(hk:k<c.Am.xs.length):2≤cLen c k∧cLen c k≤695:=by
 have h1:=Qs (gd c.Am.xs k)
 have h2:=VL (gd c.Am.xs k)
 have h3:=h.Ye hk
 unfold cLen
 have h4:=Int.mul_nonneg (show(0:Int)≤(Je c k:Int)by omega) h2.1
 have h5:=Int.mul_le_mul (show(Je c k:Int)≤4 by omega) h2.2 h2.1 (by omega)
 omega
theorem Rj{c:Aj}(h:Fine c):∀ (k:Nat),k≤c.Am.xs.length→D7 c c.Aa.xs.length≤Dw c k∧Dw c k≤D7 c c.Aa.xs.length+695*k
 | 0,_=>by simp[Dw]
 | k+1,hk=>by
  have h1:=Rj h k (by omega)
  have h2:=XI h (show k<c.Am.xs.length by omega)
  rw[Dw];omega
theorem YI{c:Aj}(h:Fine c){k j:Nat}(hk:k<c.Am.xs.length)(hj:j≤4):Dw c k≤JW c k j∧JW c k j≤Dw c k+695:=by
 have h1:=Qs (gd c.Am.xs k)
 have h2:=VL (gd c.Am.xs k)
 unfold JW
 have h4:=Int.mul_nonneg (show(0:Int)≤(j:Int)by omega) h2.1
 have h5:=Int.mul_le_mul (show(j:Int)≤4 by omega) h2.2 h2.1 (by omega)
 omega
theorem Zq{c:Aj}(h:Fine c):0≤QV c∧QV c≤2000:=by
 have h1:=Rj h _ (Nat.le_refl _)
 have h2:=h.kn;have h3:=h.pn;have h4:=h.cn
 unfold QV
 unfold D7 at h1
 omega
theorem RY{c:Aj}(h:Fine c):∀ (i:Nat),i≤c.Aa.xs.length→0≤EE c i∧EE c i≤2000+17*i
 | 0,_=>by have:=Zq h;simp only[EE];omega
 | i+1,hi=>by
  have h1:=RY h i (by omega)
  have h2:=Uo (gd c.Aa.xs i)
  rw[EE];omega
theorem gd_push{α:Type}[Inhabited α]{xs:List α}{y:α}:gd (xs++[y]) xs.length=y:=by rw[Gq (by simp)];simp
theorem gd_old{α:Type}[Inhabited α]{xs:List α}{y:α}{q:Nat}(h:q<xs.length):gd (xs++[y]) q=gd xs q:=by
 rw[Gq h,Gq (by simp;omega),List.getElem_append_left h]
theorem Ou{α:Type}[Inhabited α]{xs:List α}{y:α}{q:Nat}(h:q<xs.length):gd (xs.set q y) q=y:=by rw[Gq (by simpa using h)];simp
theorem Q7{α:Type}[Inhabited α]{xs:List α}{y:α}{q p:Nat}(h:q≠p)(hp:p<xs.length):gd (xs.set q y) p=gd xs p:=by rw[Gq (by simpa using hp),Gq hp,List.getElem_set_ne h]
theorem Wy{α:Type}{xs:List α}{y:α}{i:Nat}(h:i<xs.length):(xs.set i y).take (i+1)=xs.take i++[y]:=by
 rw[List.take_succ_eq_append_getElem (by simpa using h),List.getElem_set_self]
 rw[List.take_set_of_le (Nat.le_refl i)]
theorem Yq{c:Aj}{cs:List Ci}{k:Nat}(hl:cs.length=k)(h:∀ q,q<k→∃ a cp,gd cs q=Jc c q ⟨a,cp,Ee c q (Je c q)⟩){y:Ci}{a:Option Addr}{cp:Nat}(hy:y=Jc c k ⟨a,cp,Ee c k (Je c k)⟩) :
   ∀ q,q<k+1→∃ a cp,gd (cs++[y]) q=Jc c q ⟨a,cp,Ee c q (Je c q)⟩:=by
 intro q hq
 by_cases e:q=k
 · subst e;subst hl;exact⟨a,cp,by rw[gd_push];exact hy⟩
 · rw[gd_old (by omega)];exact h q (by omega)
theorem Rq{α:Type}[Inhabited α]{cells:α→List Value}{sz:Nat}{ok:(Nat→Prop)→World→α→Prop}{F:Nat→Prop}{W:World}:Ig cells sz ok F W ⟨none,0,[]⟩ :=
 ⟨⟨Nat.zero_le _,Nat.le_refl _,fun h=>absurd rfl h⟩,fun i hi=>absurd hi (Nat.not_lt_zero i)⟩
structure WA(c:Aj)(L:FN):Prop where
 bar:L.PN=c.Kernel*16
 fin:L.End=EE c c.Aa.xs.length
 pl:L.Aa.xs.length=c.Aa.xs.length
 ps:∀ p,p<c.Aa.xs.length→∃ a cp,gd L.Aa.xs p=H7 c p ⟨a,cp,Fa c p (Jq (gd c.Aa.xs p))⟩
 cl:L.Am.xs.length=c.Am.xs.length
 cs:∀ k,k<c.Am.xs.length→∃ a cp,gd L.Am.xs k=Jc c k ⟨a,cp,Ee c k (Je c k)⟩
theorem Uw{c:Aj}{i:Nat}:EE c (i+1)=EE c i+1+(Jq (gd c.Aa.xs i):Int):=rfl
theorem WX{c:Aj}:EE c 0=(Dw c c.Am.xs.length+16 - 1) / 16:=rfl
theorem regs_ok{n:Nat}{x:Ar}(h:EN n x=true):∀ i,i<x.Ah.xs.length→Ov (gd x.Ah.xs i)=true:=fun i hi=>by
 rw[Gq hi];exact List.all_eq_true.1 (YZ h).2 _ (List.getElem_mem hi)
theorem can_yes(w:World)(c:Aj)(hc:Aj.ok Any w c)(h:EG c=true):Calls Tryd.prog 37 #[.agg (Aj.arr c)] w fun e w'=>e = .returned (.bool true)∧CJ (fun _=>False) w w':=by
 have:=VT w c hc
 rwa [h]at this
theorem can_no(w:World)(c:Aj)(hc:Aj.ok Any w c)(h:EG c=false):Calls Tryd.prog 37 #[.agg (Aj.arr c)] w fun e w'=>e = .returned (.bool false)∧CJ (fun _=>False) w w':=by
 have:=VT w c hc
 rwa [h]at this
def layS(n:Nat)(L:FN):List Ch:=[CP n 70 5 AZ.cells L.Aa.val L.Aa.xs,CP n 91 5 Ci.cells L.Am.val L.Am.xs,LD n 99 3 CY.cells (L.Am.xs.map Ci.LH),LD n 3 1 (fun x:Int=>[Value.int .i64 x]) (L.Aa.xs.map AZ.Tables)]
def WG(n:Nat)(W:World)(L:FN):Prop:=∃ w0,Sat ⟨w0,W.heap.size,layS n L⟩ W
theorem VR{c:Aj}{k:Int}{b:Bool}(hp:∀ i,i<c.Aa.xs.length→(gd c.Aa.xs i).AB.xs.length≤8)(h8:c.Aa.xs.length≤8):∀ y∈Ce c k b,0≤y.partition∧y.partition<8∧0≤y.port∧y.port<8:=by
 intro y hy
 unfold Ce Ec at hy
 simp only[List.mem_flatMap,List.mem_range]at hy
 obtain⟨p,hpl,hy⟩:=hy
 unfold DJ at hy
 simp only[List.mem_map,List.mem_filter,List.mem_range]at hy
 obtain⟨q,⟨hq, -⟩,rfl⟩:=hy
 have:=hp p hpl
 simp only
 omega
theorem Px{x:Int}(h:0≤x)(h2:x≤1000000):FY .i64 x:=⟨by omega,by omega⟩
theorem Rx{F:Nat→Prop}{W:World}{c:Aj}{k:Int}{b:Bool}(hf:Fine c):∀ i,i<(Ce c k b).length→EW.ok F W (gd (Ce c k b) i):=fun i hi=>by
 have:=VR (k:=k) (b:=b) (fun i hi=>Py (hf.parts i hi)) hf.pn (gd (Ce c k b) i) (by rw[Gq hi];exact List.getElem_mem _)
 exact⟨Px (by omega) (by omega),Px (by omega) (by omega)⟩
theorem Zn{α:Type}{base:Nat}{e:TypeId}{sz:Nat}{cells:α→List Value}{hs:List (Sl α)}{W:World}(hsz:∀ x,(cells x).length=sz)(h:(LD base e sz cells hs).holds W){s:Sl α}(hs':s∈hs)(hl:s.xs.length≤140737488351232):Uh cells sz (New base) W s:=Ql hsz (h.1 s hs') hl
theorem lay_ok{c:Aj}{n:Nat}{W:World}{L:FN}(hf:Fine c)(hL:WA c L)(ho:WG n W L):FN.ok (New n) W L:=by
 obtain⟨w0,hs⟩:=ho
 have h0:W.ownsRow n 70 5 L.Aa.val L.Aa.xs.length (L.Aa.xs.flatMap AZ.cells):=hs.at (i:=0) rfl
 have h1:W.ownsRow n 91 5 L.Am.val L.Am.xs.length (L.Am.xs.flatMap Ci.cells):=hs.at (i:=1) rfl
 have h2:(LD n 99 3 CY.cells (L.Am.xs.map Ci.LH)).holds W:=hs.at (i:=2) rfl
 have h3:(LD n 3 1 (fun x:Int=>[Value.int .i64 x]) (L.Aa.xs.map AZ.Tables)).holds W:=hs.at (i:=3) rfl
 have hkn:=hf.kn;have hpn:=hf.pn;have hcn:=hf.cn
 refine⟨Px (by rw[hL.bar];omega) (by rw[hL.bar];omega),⟨Ql (fun _=>rfl) h0 (by rw[hL.pl];omega), ?_⟩,⟨Ql (fun _=>rfl) h1 (by rw[hL.cl];omega), ?_⟩, ?_⟩
 ·intro i hi
  have hi':i<c.Aa.xs.length:=by rw[←hL.pl];exact hi
  obtain⟨a,cp,e⟩:=hL.ps i hi'
  have ht:=RY hf i (by omega)
  have hn:=Uo (gd c.Aa.xs i)
  have hm:(gd L.Aa.xs i).Tables∈L.Aa.xs.map AZ.Tables:=List.mem_map_of_mem (by rw[Gq hi];exact List.getElem_mem hi)
  have hsl:=Zn (by intro _;rfl) h3 hm (by rw[e];simp only[H7,RF];omega)
  rw[e]at hsl ⊢
  refine⟨Px (by simp only[H7,D7];omega) (by simp only[H7,D7];omega),Px (by simp only[H7,D7];omega) (by simp only[H7,D7];omega),Px (by simp only[H7,D7];omega) (by simp only[H7,D7];omega),Px (by simp only[H7];omega) (by simp only[H7];omega),hsl, ?_⟩
  intro q hq
  have hq':q<Jq (gd c.Aa.xs i):=by simpa only[H7,RF]using hq
  show FY .i64 (gd _ _)
  have:gd (H7 c i ⟨a,cp,Fa c i (Jq (gd c.Aa.xs i))⟩).Tables.xs q=EE c i+1+(q:Int):=SL hq'
  rw[this]
  exact Px (by omega) (by omega)
 ·intro k hk
  have hk':k<c.Am.xs.length:=by rw[←hL.cl];exact hk
  obtain⟨a,cp,e⟩:=hL.cs k hk'
  have hb:=Rj hf k (by omega)
  have hd:=hf.Ye hk'
  have hp0:D7 c c.Aa.xs.length=c.Kernel*16+2+24*(c.Aa.xs.length:Int):=rfl
  have hpp:∀ i,i<c.Aa.xs.length→(gd c.Aa.xs i).AB.xs.length≤8:=fun i hi=>Py (hf.parts i hi)
  have hm:(gd L.Am.xs k).LH∈L.Am.xs.map Ci.LH:=List.mem_map_of_mem (by rw[Gq hk];exact List.getElem_mem hk)
  have hsl:=Zn (by intro _;rfl) h2 hm (by rw[e];simp only[Jc,QE];omega)
  have h1p:0<(Ce c (k:Int) true).length:=by omega
  have hsrc:=VR (k:=(k:Int)) (b:=true) hpp hpn (gd (Ce c (k:Int) true) 0) (by rw[Gq h1p];exact List.getElem_mem _)
  rw[e]at hsl ⊢
  refine⟨Px (by simp only[Jc];omega) (by simp only[Jc];omega),Px (by simp only[Jc];omega) (by simp only[Jc];omega),Px (by simp only[Jc];omega) (by simp only[Jc];omega),Px (by simp only[Jc];omega) (by simp only[Jc];omega),hsl, ?_⟩
  intro q hq
  have hq':q<Je c k:=by simpa only[Jc,QE]using hq
  have e2:gd (Jc c k ⟨a,cp,Ee c k (Je c k)⟩).LH.xs q=Nj c k q:=SL hq'
  have hdst:=VR (k:=(k:Int)) (b:=false) hpp hpn (gd (Ce c (k:Int) false) q) (by rw[Gq hq'];exact List.getElem_mem _)
  have hdb:=YI hf hk' (show q≤4 by omega)
  rw[e2]
  exact⟨Px (by simp only[Nj];omega) (by simp only[Nj];omega),Px (by simp only[Nj];omega) (by simp only[Nj];omega),Px (by simp only[Nj];omega) (by simp only[Nj];omega)⟩
 have:=RY hf _ (Nat.le_refl _)
 exact Px (by rw[hL.fin];omega) (by rw[hL.fin];omega)
theorem of_no(w:World)(c:Aj)(hc:Aj.ok Any w c)(hok:EG c=false):Calls Tryd.prog 18 #[.agg (Aj.arr c)] w fun e w'=>e = .returned (.tuple #[.agg #[.int .i64 0,.slice none 0 0,.slice none 0 0,.int .i64 0],.int .i64 150])∧CJ (fun _=>False) w w':=by
 obtain⟨z,hz⟩:∃ z,z=w.heap.size:=⟨_,rfl⟩
 refine BP (args:=[.agg (Aj.arr c)]) 148 ⟨w,z,[(Ak w)]⟩ Tryd.func18 rfl (by kernel_rfl) (by kernel_rfl) (EQ hz) ?_
 refine DZ [0] [(0,.agg (Aj.arr c))] ?_
 refine q_c 7 1 [] [[o0,o0,o0],[(an 7 1)]] [Qb z,Qb z,Qb z,Qb z,Qb z,Qb z,Qb z] [(1,pt z),(2,pt (z+1)),(16,.agg (Aj.arr c))] ⟨w,z+2,[(Ak w),(bk z (Aj.arr c) 26),(bk (z+1) #[i6 0,.slice none 0 0,.slice none 0 0,i6 0] 60)]⟩ rfl ⟨rfl,rfl,rfl,rfl,rfl,rfl,rfl,Ag⟩ ?_
 refine Bz 37 #[.agg (Aj.arr c)] (some 17) (.bool false) (fun w1 hw1=>can_no w1 c (hc.ext (hw1.ext rfl) (fun _ h=>h)) hok) (fun n2 (hn3:z+2≤n2) => ?_)
 refine BQ 8 0 [1] [[o0],[o0,(an 4 2),o0]] [Qb (z+1),Qb (z+1),Qb (z+1),Qb (z+1)] [(2,pt (z+1)),(3,i6 150)] rfl ⟨rfl,rfl,rfl,rfl,Ag⟩ ?_
 refine AX [.at 2,.at 2,.at 2,.at 2] [Qb (z+1),Qb (z+1),Qb (z+1),Qb (z+1)] (.tuple #[.agg #[i6 0,.slice none 0 0,.slice none 0 0,i6 0],i6 150]) ⟨rfl,rfl,rfl,rfl,Ag⟩ ?_
 intro w4 hw4
 exact⟨rfl,BC hw4⟩
section
variable (n2:Nat)(c:Aj)(aP:Option Addr)(i cP:Nat)(ax100:Option Addr)(csG:List Ci)(k:Nat)(y48:EW)(aD:Option Addr)(cD j cp101:Nat)(ax20:Option Addr)(cp21 b50:Nat)(ax96:Option Addr)(y89:EW)(cp97 n80:Nat)(w55 w36:World)(b119:Nat)(psG:List AZ)(cP2:Nat)(aC:Option Addr)(cC n9:Nat)(aP2:Option Addr)(w91:World)(z:Nat)(y34:BH)(n25 p:Nat)(t n109:Nat)(y118:Ar)(aT:Option Addr)(cT:Nat)(ax134:Option Addr)(cp135 b111:Nat)(o112 b82:Nat)(o83 cp40:Nat)(b27 o28:Nat)(ax39:Option Addr)(w:World)
abbrev SV:=bk (n2+1) #[i6 (c.Kernel*16),.slice aP ((Gp c i).length) cP,.slice ax100 ((csG++[(⟨Dw c k,(Dw c k)+2,y48.partition,y48.port,(⟨aD,cD,Ee c k j⟩:Sl CY)⟩:Ci)]).length) cp101,i6 0] 60
abbrev RZ:Ch:= .blk (n2+1) (.cells #[i6 (c.Kernel*16),.slice ax20 ((Gp c i++[(⟨D7 c i,(D7 c i)+2,((D7 c i)+2)+17,0,(⟨none,0,[]⟩:Sl Int)⟩:AZ)]).length) cp21,.slice none 0 0,i6 0] 60 (0,0)) true
abbrev Qn:=bk b50 #[i6 (Dw c k),i6 ((Dw c k)+2),i6 y48.partition,i6 y48.port,.slice ax96 ((Ee c k j++[(⟨y89.partition,y89.port,JW c k j⟩:CY)]).length) cp97] 91
abbrev GI:=bk b50 #[i6 (Dw c k),i6 ((Dw c k)+2),i6 y48.partition,i6 y48.port,.slice aD ((Ee c k j).length) cD] 91
abbrev SH:=bk n80 #[i6 (Dw c k),i6 ((Dw c k)+2),i6 y48.partition,i6 y48.port,.slice aD ((Ee c k j).length) cD] 91
abbrev qzm6_5:Ch:= .blk w55.heap.size (.cells #[i6 (Dw c k),i6 ((Dw c k)+2),i6 y48.partition,i6 y48.port,.slice none 0 0] 91 (0,0)) true
abbrev qzm6_6:Ch:= .blk w36.heap.size (.cells #[i6 (Dw c k),i6 ((Dw c k)+2),i6 y48.partition,i6 y48.port,.slice none 0 0] 91 (0,0)) true
abbrev IZ:=bk (n2+1) #[i6 (c.Kernel*16),.slice (some ⟨b119,0,none⟩) psG.length cP2,.slice aC csG.length cC,i6 0] 60
abbrev SS:=bk n9 #[i6 (D7 c i),i6 ((D7 c i)+2),i6 (((D7 c i)+2)+17),i6 0,.slice none 0 0] 70
abbrev DL:=bk (n2+1) #[i6 (c.Kernel*16),.slice aP ((Gp c i).length) cP,.slice aC csG.length cC,i6 0] 60
abbrev Fv:=bk (n2+1) #[i6 (c.Kernel*16),.slice aP ((Gp c i).length) cP,.slice none 0 0,i6 0] 60
abbrev ML:=bk (n2+1) #[i6 (c.Kernel*16),.slice aP2 psG.length cP2,.slice aC csG.length cC,i6 0] 60
abbrev TA:Ch:= .blk w55.heap.size (.cells #[i6 0,i6 0,i6 0,i6 0,.slice none 0 0] 91 (0,0)) true
abbrev Ri:Ch:= .blk w36.heap.size (.cells #[i6 0,i6 0,i6 0,i6 0,.slice none 0 0] 91 (0,0)) true
abbrev OL:Ch:= .blk w91.heap.size (.cells #[i6 y89.partition,i6 y89.port,i6 (JW c k j)] 99 (0,0)) true
abbrev BM:=bk (z+1) #[i6 0,.slice none 0 0,.slice none 0 0,i6 0] 60
abbrev Gh:=bk n2 #[i6 (((Dw c k)+2)+(BO y34))] 3
abbrev O7:=bk n25 #[i6 ((EE c p+1+(t:Int))+1)] 3
abbrev O5:=bk n2 #[i6 ((((D7 c i)+2)+17)+5)] 3
abbrev MK:=bk n2 #[i6 ((JW c k j)+(portOf y34))] 3
abbrev Nv:=bk n25 #[i6 (EE c p+1+(t:Int))] 3
abbrev QS:=bk n2 #[i6 ((Dw c k)+2)] 3
abbrev Gv:=bk n2 #[i6 (JW c k j)] 3
abbrev Hz:=bk n109 (Ar.arr y118) 52
abbrev KG:=bk n25 #[i6 (EE c p)] 3
abbrev Ea:=bk n2 #[i6 (Dw c k)] 3
abbrev Dx:=bk n25 (BH.arr y34) 115
abbrev KE:=bk n80 (EW.arr y89) 121
abbrev BL:=bk z (Aj.arr c) 26
abbrev QY:=CP z 70 5 AZ.cells (.slice (some ⟨b119,0,none⟩) psG.length cP2) ((psG.set p (⟨D7 c p,D7 c p+2,D7 c p+2+17,EE c p,(⟨aT,cT,Fa c p t⟩:Sl Int)⟩:AZ)).set p (⟨D7 c p,D7 c p+2,D7 c p+2+17,EE c p,(⟨ax134,cp135,((Fa c p t)++[EE c p+1+(t:Int)])⟩:Sl Int)⟩:AZ))
abbrev QP:=CP z 91 5 Ci.cells (.slice ax100 ((csG++[(⟨Dw c k,(Dw c k)+2,y48.partition,y48.port,(⟨aD,cD,Ee c k j⟩:Sl CY)⟩:Ci)]).length) cp101) (csG++[(⟨Dw c k,(Dw c k)+2,y48.partition,y48.port,(⟨aD,cD,Ee c k j⟩:Sl CY)⟩:Ci)])
abbrev QN:=CP z 70 5 AZ.cells (.slice ax20 ((Gp c i++[(⟨D7 c i,(D7 c i)+2,((D7 c i)+2)+17,0,(⟨none,0,[]⟩:Sl Int)⟩:AZ)]).length) cp21) (Gp c i++[(⟨D7 c i,(D7 c i)+2,((D7 c i)+2)+17,0,(⟨none,0,[]⟩:Sl Int)⟩:AZ)])
abbrev OB:=CP z 99 3 CY.cells (.slice ax96 ((Ee c k j++[(⟨y89.partition,y89.port,JW c k j⟩:CY)]).length) cp97) (Ee c k j++[(⟨y89.partition,y89.port,JW c k j⟩:CY)])
abbrev JC:=CP z 70 5 AZ.cells (.slice (some ⟨b119,0,none⟩) psG.length cP2) (psG.set p (⟨D7 c p,D7 c p+2,D7 c p+2+17,EE c p,(⟨aT,cT,Fa c p t⟩:Sl Int)⟩:AZ))
abbrev NY:=CP z 3 1 (fun x:Int=>[i6 x]) (.slice aT ((Fa c p t).length) cT) (Fa c p t)
abbrev G8:=LD z 3 1 (fun x:Int=>[i6 x]) ((psG.take p).map AZ.Tables)
abbrev CS:=CP z 70 5 AZ.cells (.slice aP ((Gp c i).length) cP) (Gp c i)
abbrev Gw:=CP z 99 3 CY.cells (.slice aD ((Ee c k j).length) cD) (Ee c k j)
abbrev Lr:=CP z 70 5 AZ.cells (.slice aP2 psG.length cP2) psG
abbrev CG:=CP z 91 5 Ci.cells (.slice aC csG.length cC) csG
abbrev CB:=LD z 99 3 CY.cells (csG.map Ci.LH)
abbrev Tn:CO:=(42,.slice ax20 ((Gp c i++[(⟨D7 c i,(D7 c i)+2,((D7 c i)+2)+17,0,(⟨none,0,[]⟩:Sl Int)⟩:AZ)]).length) cp21)
abbrev QK:CO:=(73,.agg #[i6 (Dw c k),i6 ((Dw c k)+2),i6 y48.partition,i6 y48.port,.slice none 0 0])
abbrev Fg:CO:=(109,.slice (some ⟨b111,o112,none⟩) c.Aa.xs.length c.Aa.cap)
abbrev Iq:CO:=(74,.slice (some ⟨b82,o83,none⟩) ((Ce c (k:Int) false).length) cp40)
abbrev Cf:CO:=(46,.slice (some ⟨b27,o28,none⟩) c.Am.xs.length c.Am.cap)
abbrev JB:CO:=(109,.slice c.Aa.a c.Aa.xs.length c.Aa.cap)
abbrev EJ:=(75,i6 (((Ce c (k:Int) false).length:Nat):Int))
abbrev Gu:CO:=(46,.slice c.Am.a c.Am.xs.length c.Am.cap)
abbrev Ew:CO:=(13,.func (.func 77) #[] #[pt n25])
abbrev Lh:CO:=(61,.func (.func 77) #[] #[pt n2])
abbrev BI:CO:=(4,.func (.func 77) #[] #[pt n2])
abbrev GR:CO:=(74,.slice ax39 ((Ce c (k:Int) false).length) cp40)
abbrev D5:CO:=(9,.slice ax39 ((Ce c (k:Int) false).length) cp40)
abbrev Ep:=(110,Ac c.Aa.xs.length)
abbrev Et:=(29,Ac c.Aa.xs.length)
abbrev BX:=(47,Ac c.Am.xs.length)
abbrev N9:=(10,pt w55.heap.size)
abbrev Js:=(10,pt w36.heap.size)
abbrev Hm:=(124,i6 ((Jq y118:Nat):Int))
abbrev OH:CO:=(33,.slice aP ((Gp c i).length) cP)
abbrev Ba:=(5,pt (n2+1))
abbrev AY:=(2,pt (z+1))
abbrev E8:=(10,pt b50)
abbrev CQ:=(7,pt n25)
abbrev ND:=[(Ak w),(BL c z),(BM z),(Ea n2 c k),(IZ n2 c csG b119 psG cP2 aC cC),(JC c b119 psG cP2 z p t aT cT),(CB csG z),(CG csG aC cC z),(Nv c n25 p t),(G8 psG z p),(Hz n109 y118),(NY c z p t aT cT)]
abbrev Qg:=[(Ak w),(BL c z),(BM z),(Gh n2 c k y34),(DL n2 c aP i cP csG aC cC),(CS c aP i cP z),(CB csG z),(CG csG aC cC z),(Dx y34 n25),(mid (n25+1) w36),(qzm6_5 c k y48 w55)]
abbrev Qi:=[(Ak w),(BL c z),(BM z),(Gh n2 c k y34),(DL n2 c aP i cP csG aC cC),(CS c aP i cP z),(CB csG z),(CG csG aC cC z),(Dx y34 n25),(mid (n25+1) w36),(qzm6_6 c k y48 w36)]
abbrev Tf:=[(Ak w),(BL c z),(BM z),(QS n2 c k),(DL n2 c aP i cP csG aC cC),(CS c aP i cP z),(CB csG z),(CG csG aC cC z),(Dx y34 n25),(mid (n25+1) w36),(Ri w36)]
abbrev Lm:=[(Ak w),(BL c z),(BM z),(Ea n2 c k),(ML n2 c csG psG cP2 aC cC aP2),(Lr psG cP2 aP2 z),(CB csG z),(CG csG aC cC z),(KG c n25 p),(G8 psG z p)]
abbrev G6:=[(Ak w),(BL c z),(BM z),(Ea n2 c k),(DL n2 c aP i cP csG aC cC),(CS c aP i cP z),(CB csG z),(CG csG aC cC z)]
abbrev Gx:=[(Ak w),(BL c z),(BM z),(bk n2 #[i6 (D7 c i)] 3),(Fv n2 c aP i cP),(CS c aP i cP z)]
end
theorem Xr(w:World)(c:Aj)(hc:Aj.ok Any w c)(hok:EG c=true):Calls Tryd.prog 18 #[.agg (Aj.arr c)] w fun e w'=>∃ L:FN,e = .returned (.tuple #[.agg (FN.arr L),.int .i64 0])∧WA c L∧FN.ok (New w.heap.size) w' L∧WG w.heap.size w' L∧CJ (fun _=>False) w w':=by
 obtain⟨z,hz⟩:∃ z,z=w.heap.size:=⟨_,rfl⟩
 refine BP (args:=[.agg (Aj.arr c)]) 148 ⟨w,z,[(Ak w)]⟩ Tryd.func18 rfl (by kernel_rfl) (by kernel_rfl) (EQ hz) ?_
 have hfine:=TG hok;have hkn:=hfine.kn;have hpn:=hfine.pn;have hcn:=hfine.cn
 refine DZ [0] [(0,.agg (Aj.arr c))] ?_
 refine q_c 7 1 [] [[o0,o0,o0],[(an 7 1)]] [Qb z,Qb z,Qb z,Qb z,Qb z,Qb z,Qb z] [(1,pt z),(AY z),(16,.agg (Aj.arr c))] ⟨w,z+2,[(Ak w),(BL c z),(BM z)]⟩ rfl ⟨rfl,rfl,rfl,rfl,rfl,rfl,rfl,Ag⟩ ?_
 refine Bz 37 #[.agg (Aj.arr c)] (some 17) (.bool true) (fun w1 hw1=>can_yes w1 c (hc.ext (hw1.ext rfl) (fun _ h=>h)) hok) (fun n2 (hn3:z+2≤n2) => ?_)
 refine BQ 7 3 [0] [[o0],[o0,(a1 1),(ov (i6 (c.Kernel*16)))]] [Qb z,Wr ((c.Kernel:Int)*16) (c.Kernel*16)] [(1,pt z),(AY z),(22,i6 (c.Kernel*16))] rfl ⟨rfl,CU,Ag⟩ ?_
 refine l_call [] [] 38 #[i6 (c.Kernel*16)] (some 23) Ag ?_
 intro w4 hw4
 refine BP (args:=[i6 (c.Kernel*16)]) 4 ⟨w,n2,[(Ak w),(BL c z),(BM z)]⟩ Tryd.func38 rfl (by kernel_rfl) (by kernel_rfl) hw4 ?_
 refine q_c 9 0 [] [[o0,o0],[o0,o0]] [] [(2,.func (.func 77) #[] #[pt n2])] ⟨w,n2+1,[(Ak w),(BL c z),(BM z),(bk n2 #[i6 (c.Kernel*16)] 3)]⟩ rfl Ag ?_
 refine AX [] [] (.func (.func 77) #[] #[pt n2]) Ag ?_
 intro w5 hw5
 refine⟨_,_,rfl,hw5, ?_⟩
 refine BQ 4 1 [] [[o0],[o0]] [] [(1,pt z),(AY z),(BI n2),(24,.func (.func 77) #[] #[pt n2])] rfl Ag ?_
 refine l_call [] [] 77 #[i6 2,pt n2] (some 25) Ag ?_
 intro w6 hw6
 refine BP (args:=[i6 2,pt n2]) 10 ⟨w,n2+1,[(Ak w),(BL c z),(BM z),(bk n2 #[i6 (c.Kernel*16)] 3)]⟩ Tryd.func77 rfl (by kernel_rfl) (by kernel_rfl) hw6 ?_
 refine q_c 17 0 [] [[o0],[(a1 3),o0],[(a1 3),o0,(ov (i6 ((c.Kernel*16)+2))),(a1 3)],[o0,o0]] [Qb n2,Qb n2,Wr ((c.Kernel*16:Int)+2) ((c.Kernel*16)+2),Qb n2] [(3,i6 (c.Kernel*16))] ⟨w,n2+1,[(Ak w),(BL c z),(BM z),(bk n2 #[i6 ((c.Kernel*16)+2)] 3)]⟩ rfl ⟨rfl,rfl,CU,rfl,Ag⟩ ?_
 refine AX [] [] (i6 (c.Kernel*16)) Ag ?_
 intro w7 hw7
 refine⟨_,_,rfl,hw7, ?_⟩
 refine FD 8 0 [] [[o0,o0,(an 4 4)],[o0,(a1 1),o0,o0]] [Qb (n2+1),Qb (n2+1),Qb (n2+1),Qb (n2+1),Qb z] [(1,pt z),(AY z),(BI n2),(Ba n2),(Et c),(30,i6 0)] ⟨w,n2+2,[(Ak w),(BL c z),(BM z),(bk n2 #[i6 ((c.Kernel*16)+2)] 3),(bk (n2+1) #[i6 (c.Kernel*16),.slice none 0 0,.slice none 0 0,i6 0] 60)]⟩ rfl ⟨rfl,rfl,rfl,rfl,rfl,Ag⟩ ?_
 refine Nb z 70 5 AZ.cells ?_
 refine DW (fun m a w'=>∃ (n9:Nat) (i:Nat) (aP:Option Addr) (cP:Nat),m=c.Aa.xs.length - i∧n2+2≤n9∧(i≤c.Aa.xs.length)∧St 148 [(1,pt z),(AY z),(BI n2),(Ba n2),(Et c),(30,Ac i)] [] ⟨w,n9,(Gx n2 c aP i cP z w)⟩ a w') (c.Aa.xs.length - 0) ?_ ?_
 ·intro a w' hs;exact⟨(n2+2),0,none,0,rfl,Nat.le_refl _,Nat.zero_le _,by(try dsimp only[Fv,BM,BL,CS,BI,Et,Ba,AY,Gx]at hs ⊢);rw[show D7 c 0=(c.Kernel*16)+2 from by unfold D7;omega];exact hs⟩
 rintro m a w' ⟨n9,i,aP,cP,rfl,hn8,hki,hs⟩
 refine(?_:G Tryd.prog 148 [(1,pt z),(AY z),(BI n2),(Ba n2),(Et c),(30,Ac i)] [] ⟨w,n9,(Gx n2 c aP i cP z w)⟩ _ _ _) a w' hs
 clear hs a w'
 have hpA:D7 c i=c.Kernel*16+2+24*(i:Int):=rfl
 have hpl0:(Gp c i).length=i:=RS
 refine DC ?_
 by_cases h10:(i:Int)<(c.Aa.xs.length:Int)
 ·refine A7 9 0 [1] [[oT]] [BT ((i:Int)<(c.Aa.xs.length:Int))] [(1,pt z),(AY z),(BI n2),(Ba n2),(Et c),(30,Ac i),(31,.bool true)] rfl ⟨bt,Ag⟩ ?_
  refine DN 12 [0,1,2,4] [(Ak w),(BL c z),(BM z),(Fv n2 c aP i cP)] rfl rfl ?_
  refine Dc [(0,o0),(1,(a1 3)),(2,o0),(4,o0),(6,o0)] [1,2,4,5,29,30,33,34,36,38] [Qb (n2+1)] [true,true,true,false,true,false,true,false,false,false,false,false,false] [(1,pt z),(AY z),(BI n2),(Ba n2),(Et c),(30,Ac i),(OH c aP i cP),(34,.func (.func 77) #[] #[pt n2]),(36,.func (.func 77) #[] #[pt n2]),(38,.func (.func 77) #[] #[pt n2])] ⟨rfl,Ag⟩ ?_
  refine Bo 3 ?_
  refine G7 [] [] 77 #[i6 2,pt n2] (some 35) (by as_aux_lemma=>kernel_rfl) rfl rfl Ag ?_
  intro w11 hw11
  refine BP (args:=[i6 2,pt n2]) 10 ⟨w,n9,(Gx n2 c aP i cP z w)⟩ Tryd.func77 rfl (by kernel_rfl) (by kernel_rfl) hw11 ?_
  refine q_c 17 0 [] [[o0],[(a1 3),o0],[(a1 3),o0,(ov (i6 ((D7 c i)+2))),(a1 3)],[o0,o0]] [Qb n2,Qb n2,Wr ((D7 c i:Int)+2) ((D7 c i)+2),Qb n2] [(3,i6 (D7 c i))] ⟨w,n9,[(Ak w),(BL c z),(BM z),(bk n2 #[i6 ((D7 c i)+2)] 3),(Fv n2 c aP i cP),(CS c aP i cP z)]⟩ rfl ⟨rfl,rfl,CU,rfl,Ag⟩ ?_
  refine AX [] [] (i6 (D7 c i)) Ag ?_
  intro w12 hw12
  have hs13:=hw12
  refine⟨_,_,rfl,hs13,.inr (fun c hc=>hs13.all c (by first | exact hc | exact DI (is:=[0,1,2,4]) rfl c hc)), ?_⟩
  refine CZ [1,2,4,5,29,30,33,36,38,35] [(1,pt z),(AY z),(BI n2),(Ba n2),(Et c),(30,Ac i),(OH c aP i cP),(36,.func (.func 77) #[] #[pt n2]),(38,.func (.func 77) #[] #[pt n2]),(35,i6 (D7 c i))] ?_
  refine Bo 5 ?_
  refine G7 [] [] 77 #[i6 17,pt n2] (some 37) (by as_aux_lemma=>kernel_rfl) rfl rfl Ag ?_
  intro w14 hw14
  refine BP (args:=[i6 17,pt n2]) 10 ⟨w,n9,[(Ak w),(BL c z),(BM z),(bk n2 #[i6 ((D7 c i)+2)] 3),(Fv n2 c aP i cP),(CS c aP i cP z)]⟩ Tryd.func77 rfl (by kernel_rfl) (by kernel_rfl) hw14 ?_
  refine q_c 17 0 [] [[o0],[(a1 3),o0],[(a1 3),o0,(ov (i6 (((D7 c i)+2)+17))),(a1 3)],[o0,o0]] [Qb n2,Qb n2,Wr (((D7 c i)+2:Int)+17) (((D7 c i)+2)+17),Qb n2] [(3,i6 ((D7 c i)+2))] ⟨w,n9,[(Ak w),(BL c z),(BM z),(bk n2 #[i6 (((D7 c i)+2)+17)] 3),(Fv n2 c aP i cP),(CS c aP i cP z)]⟩ rfl ⟨rfl,rfl,CU,rfl,Ag⟩ ?_
  refine AX [] [] (i6 ((D7 c i)+2)) Ag ?_
  intro w15 hw15
  have hs16:=hw15
  refine⟨_,_,rfl,hs16,.inr (fun c hc=>hs16.all c (by first | exact hc | exact DI (is:=[0,1,2,4]) rfl c hc)), ?_⟩
  refine CZ [1,2,4,5,29,30,33,38,35,37] [(1,pt z),(AY z),(BI n2),(Ba n2),(Et c),(30,Ac i),(OH c aP i cP),(38,.func (.func 77) #[] #[pt n2]),(35,i6 (D7 c i)),(37,i6 ((D7 c i)+2))] ?_
  refine Bo 7 ?_
  refine G7 [] [] 77 #[i6 5,pt n2] (some 39) (by as_aux_lemma=>kernel_rfl) rfl rfl Ag ?_
  intro w17 hw17
  refine BP (args:=[i6 5,pt n2]) 10 ⟨w,n9,[(Ak w),(BL c z),(BM z),(bk n2 #[i6 (((D7 c i)+2)+17)] 3),(Fv n2 c aP i cP),(CS c aP i cP z)]⟩ Tryd.func77 rfl (by kernel_rfl) (by kernel_rfl) hw17 ?_
  refine q_c 17 0 [] [[o0],[(a1 3),o0],[(a1 3),o0,(ov (i6 ((((D7 c i)+2)+17)+5))),(a1 3)],[o0,o0]] [Qb n2,Qb n2,Wr ((((D7 c i)+2)+17:Int)+5) ((((D7 c i)+2)+17)+5),Qb n2] [(3,i6 (((D7 c i)+2)+17))] ⟨w,n9,[(Ak w),(BL c z),(BM z),(O5 n2 c i),(Fv n2 c aP i cP),(CS c aP i cP z)]⟩ rfl ⟨rfl,rfl,CU,rfl,Ag⟩ ?_
  refine AX [] [] (i6 (((D7 c i)+2)+17)) Ag ?_
  intro w18 hw18
  have hs19:=hw18
  refine⟨_,_,rfl,hs19,.inr (fun c hc=>hs19.all c (by first | exact hc | exact DI (is:=[0,1,2,4]) rfl c hc)), ?_⟩
  refine CZ [1,2,4,5,29,30,33,35,37,39] [(1,pt z),(AY z),(BI n2),(Ba n2),(Et c),(30,Ac i),(OH c aP i cP),(35,i6 (D7 c i)),(37,i6 ((D7 c i)+2)),(39,i6 (((D7 c i)+2)+17))] ?_
  refine Dc [(8,o0)] [1,2,4,5,29,30,33,40] [] (Dj 9 4) [(1,pt z),(AY z),(BI n2),(Ba n2),(Et c),(30,Ac i),(OH c aP i cP),(40,.agg #[i6 (D7 c i),i6 ((D7 c i)+2),i6 (((D7 c i)+2)+17),i6 0,.slice none 0 0])] Ag ?_
  refine Bo 9 ?_
  refine Bq o0 [1,2,4,5,29,30,33,41] [] [(1,pt z),(AY z),(BI n2),(Ba n2),(Et c),(30,Ac i),(OH c aP i cP),(41,.slice (some ⟨n9,0,none⟩) 1 1)] ⟨w,n9+1,[(Ak w),(BL c z),(BM z),(O5 n2 c i),(Fv n2 c aP i cP),(CS c aP i cP z),(SS c i n9)]⟩ [0,1,2,4] Ag (.inr rfl) ?_
  refine Bo 10 ?_
  refine OD z 5 6 (Gp c i) [(⟨D7 c i,(D7 c i)+2,((D7 c i)+2)+17,0,(⟨none,0,[]⟩:Sl Int)⟩:AZ)] AZ.cells 70 5 56 (.slice aP ((Gp c i).length) cP) n9 1 1 #[i6 (D7 c i),i6 ((D7 c i)+2),i6 (((D7 c i)+2)+17),i6 0,.slice none 0 0] 70 (0,0) true (some 42) [0,1,2,4] (by simp only[List.length_cons,List.length_nil];omega) (show z≤n9+1 by omega) (.inr ⟨rfl,rfl⟩) (fun ax20 cp21 n22 (hn23:n9+1≤n22) => ?_)
  refine CZ [1,2,4,5,29,30,42] [(1,pt z),(AY z),(BI n2),(Ba n2),(Et c),(30,Ac i),(Tn c i ax20 cp21)] ?_
  refine Dc [(11,o0)] [1,2,4,5,29,30,42,43] [] (Dj 12 1) [(1,pt z),(AY z),(BI n2),(Ba n2),(Et c),(30,Ac i),(Tn c i ax20 cp21),(43,.pointer (some ⟨n2+1,1,none⟩))] Ag ?_
  refine Bo 12 ?_
  refine Bq (a1 4) [1,2,4,5,29,30] [Qb (n2+1)] [(1,pt z),(AY z),(BI n2),(Ba n2),(Et c),(30,Ac i)] ⟨w,n22,[(Ak w),(BL c z),(BM z),(O5 n2 c i),(RZ n2 c i ax20 cp21),(QN c i ax20 cp21 z),(SS c i n9)]⟩ [] ⟨rfl,Ag⟩ (.inl rfl) ?_
  refine D8 13 [0,1,2,3,4,5,6] [(Ak w),(BL c z),(BM z),(O5 n2 c i),(RZ n2 c i ax20 cp21),(QN c i ax20 cp21 z),(SS c i n9)] rfl rfl ?_
  refine CV ?_
  refine Ns 4 0 [] [[(ov (i6 ((i+1:Nat):Int))),o0]] [Wr ((i:Int)+1) (((i+1:Nat):Int))] [(1,pt z),(AY z),(BI n2),(Ba n2),(Et c),(30,i6 ((i+1:Nat):Int))] rfl ⟨CU,Ag⟩ ?_
  refine Cc [0,1,2,3,4,5] [(Ak w),(BL c z),(BM z),(O5 n2 c i),(RZ n2 c i ax20 cp21),(QN c i ax20 cp21 z)] rfl rfl ?_
  refine BR [1,2,4,5,29,30] [(1,pt z),(AY z),(BI n2),(Ba n2),(Et c),(30,i6 ((i+1:Nat):Int))] ?_
  refine Cj (fun a w' hs=>⟨c.Aa.xs.length - (i+1),by omega,n22,(i+1),ax20,cp21,rfl,by omega,by omega,by(try dsimp only[RZ,SS,Fv,BM,O5,BL,QN,CS,Tn,BI,Et,OH,Ba,AY,Gx]at hs ⊢);rw[show D7 c (i+1)=(((D7 c i)+2)+17)+5 from by unfold D7;omega,Wu];exact hs⟩)
 refine A7 16 0 [0] [[oF],[o0,(a1 1),o0,o0]] [BF ((i:Int)<(c.Aa.xs.length:Int)),Qb z] [(1,pt z),(AY z),(BI n2),(Ba n2),(Gu c),(BX c),(48,i6 0)] rfl ⟨bf,rfl,Ag⟩ ?_
 refine YA z 99 3 CY.cells ?_
 refine Nb z 91 5 Ci.cells ?_
 refine DW (fun m a w'=>∃ (n25:Nat) (k:Nat) (csG:List Ci) (aC:Option Addr) (cC:Nat),m=c.Am.xs.length - k∧n9≤n25∧(k≤c.Am.xs.length)∧(csG.length=k)∧(∀ q,q<k→∃ a cp,gd csG q=Jc c q ⟨a,cp,Ee c q (Je c q)⟩)∧St 148 [(1,pt z),(AY z),(BI n2),(Ba n2),(Gu c),(BX c),(48,Ac k)] [] ⟨w,n25,(G6 n2 c aP i cP csG k aC cC z w)⟩ a w') (c.Am.xs.length - 0) ?_ ?_
 ·intro a w' hs;exact⟨n9,0,([]),none,0,rfl,Nat.le_refl _,Nat.zero_le _,rfl,fun q hq=>absurd hq (Nat.not_lt_zero q),by(try dsimp only[RZ,SS,DL,Fv,BM,O5,Ea,BL,QN,CS,CG,CB,Tn,Gu,BI,Et,BX,Ba,AY,G6,Gx]at hs ⊢);rw[show Dw c 0=D7 c i from by rw[show i=c.Aa.xs.length by omega];rfl];exact hs⟩
 rintro m a w' ⟨n25,k,csG,aC,cC,rfl,hn24,hkk,hcl,hcs,hs⟩
 refine(?_:G Tryd.prog 148 [(1,pt z),(AY z),(BI n2),(Ba n2),(Gu c),(BX c),(48,Ac k)] [] ⟨w,n25,(G6 n2 c aP i cP csG k aC cC z w)⟩ _ _ _) a w' hs
 clear hs a w'
 have hcb:=Rj hfine k (by omega)
 have hp0:D7 c c.Aa.xs.length=c.Kernel*16+2+24*(c.Aa.xs.length:Int):=rfl
 refine DC ?_
 by_cases h26:(k:Int)<(c.Am.xs.length:Int)
 ·refine A7 10 0 [1] [[oT]] [BT ((k:Int)<(c.Am.xs.length:Int))] [(1,pt z),(AY z),(BI n2),(Ba n2),(Gu c),(BX c),(48,Ac k),(49,.bool true)] rfl ⟨bt,Ag⟩ ?_
  obtain⟨b27,o28,ha29,hF31,hc30⟩:=(hc.Am).1.all (show 0<c.Am.xs.length by omega)
  replace ha29:c.Am.a=some ⟨b27,o28,none⟩:=ha29
  refine IM [(1,pt z),(AY z),(BI n2),(Ba n2),(Cf c b27 o28),(BX c),(48,Ac k),(49,.bool true)] (by(try dsimp only[DL,Fv,BM,Ea,BL,CS,CG,CB,Cf,Gu,BI,Et,BX,Ba,AY,G6,Gx]);simp only[ha29]) ?_
  have hc32:=hc30 k (show k<c.Am.xs.length by omega)
  have he33:=(hc.Am).2 k (show k<c.Am.xs.length by omega)
  obtain⟨y34,hy34⟩:∃ y_,y_=gd c.Am.xs k:=⟨_,rfl⟩
  rw[←hy34]at he33 hc32
  have hEd:=hfine.Ye (k:=k) (by omega);have hsb:=Qs y34;have hpb:=VL y34;have hlb:=XI hfine (show k<c.Am.xs.length by omega);have hEn:Je c k=(Ce c (k:Int) false).length:=rfl
  refine q_c 5 2 [] [[o0,(oi k),(ol 0 (BH.arr y34)),o0,o0,(an 3 8)],[(an 7 1),o0]] [Ed k,k<c.Am.xs.length,Dt,Ie w b27 (o28+k*3) (BH.arr y34),Qb n25,Qb n25,Qb n25,Qb z,Qb z,Qb z,Qb z,Qb z,Qb z,Qb z] [(1,pt z),(AY z),(BI n2),(Ba n2),(Cf c b27 o28),(BX c),(48,Ac k),(CQ n25),(54,.agg (Aj.arr c)),(55,Ac k)] ⟨w,n25+1,[(Ak w),(BL c z),(BM z),(Ea n2 c k),(DL n2 c aP i cP csG aC cC),(CS c aP i cP z),(CB csG z),(CG csG aC cC z),(Dx y34 n25)]⟩ rfl ⟨rfl,(by omega),rfl,EL hc32,rfl,rfl,rfl,rfl,rfl,rfl,rfl,rfl,rfl,rfl,Ag⟩ ?_
  refine l_call [] [] 39 #[.agg (Aj.arr c),Ac k] (some 56) Ag ?_
  intro w35 hw35
  refine(Oz w35 c (k:Int) (hc.ext (hw35.ext rfl) (fun _ h=>h)) (by omega) (fun i hi=>Py (hfine.parts i hi))).mono ?_
  rintro e w36 ⟨ax37,cp38,ax39,cp40,rfl,hSw36,hDw36,hkw36⟩
  have hnw36:n25+1≤w36.heap.size:=EO hw35 hkw36
  rw[hw35.size]at hSw36 hDw36
  refine⟨_,_,rfl,hw35.RV hkw36, ?_⟩
  refine BQ 3 0 [] [[o0,o0,o0,o0,o0]] [] [(1,pt z),(AY z),(BI n2),(Ba n2),(Cf c b27 o28),(BX c),(48,Ac k),(CQ n25),(8,.slice ax37 ((Ce c (k:Int) true).length) cp38),(D5 c k cp40 ax39)] rfl Ag ?_
  obtain⟨b41,o42,ha43,hF45,hc44⟩:=((⟨hSw36,Rx hfine⟩:Ig EW.cells 2 EW.ok _ _ _)).1.all (show 0<(Ce c (k:Int) true).length by omega)
  replace ha43:ax37=some ⟨b41,o42,none⟩:=ha43
  refine IM [(1,pt z),(AY z),(BI n2),(Ba n2),(Cf c b27 o28),(BX c),(48,Ac k),(CQ n25),(8,.slice (some ⟨b41,o42,none⟩) ((Ce c (k:Int) true).length) cp38),(D5 c k cp40 ax39)] (by(try dsimp only[DL,Fv,BM,Ea,Dx,BL,CS,CG,CB,Cf,Gu,BI,D5,Et,BX,Ba,AY,CQ,G6,Gx]);simp only[ha43]) ?_
  have hc46:=hc44 0 (show 0<(Ce c (k:Int) true).length by omega)
  have he47:=((⟨hSw36,Rx hfine⟩:Ig EW.cells 2 EW.ok _ _ _)).2 0 (show 0<(Ce c (k:Int) true).length by omega)
  obtain⟨y48,hy48⟩:∃ y_,y_=gd (⟨ax37,cp38,Ce c (k:Int) true⟩:Sl EW).xs 0:=⟨_,rfl⟩
  rw[←hy48]at he47 hc46
  refine DN 16 [0,1,2,4,5,6,7,8,9] [(Ak w),(BL c z),(BM z),(DL n2 c aP i cP csG aC cC),(CS c aP i cP z),(CB csG z),(CG csG aC cC z),(Dx y34 n25),(mid (n25+1) w36)] rfl rfl ?_
  refine Dc [(0,o0),(2,o0),(3,(an 3 7)),(6,o0),(7,(oi 0)),(8,o0),(9,(oa [.via 8 (i6 y48.partition)])),(10,o0),(11,(oi 0)),(12,o0),(13,(oa [.via 8 (i6 y48.port)]))] [1,2,4,5,46,47,48,7,9,59,61,62,68,72] [Qb n25,Qb n25,Qb n25,(0:Int)=((0:Nat):Int),0<(Ce c (k:Int) true).length,Dt,∀ w',Ch.holds (mid (n25+1) w36) w'→w'.cell? ⟨b41,o42,none⟩=some (i6 y48.partition),(0:Int)=((0:Nat):Int),0<(Ce c (k:Int) true).length,Dt,∀ w',Ch.holds (mid (n25+1) w36) w'→w'.cell? ⟨b41,o42+1,none⟩=some (i6 y48.port)] [true,false,true,true,false,false,true,true,true,true,true,true,true,true,false,false,false] [(1,pt z),(AY z),(BI n2),(Ba n2),(Cf c b27 o28),(BX c),(48,Ac k),(CQ n25),(D5 c k cp40 ax39),(59,.func (.func 77) #[] #[pt n2]),(Lh n2),(62,.agg (BH.arr y34)),(68,i6 y48.partition),(72,i6 y48.port)] ⟨rfl,rfl,rfl,rfl,(by omega),rfl,OE hF45 (hc46 0 _ rfl),rfl,(by omega),rfl,OE hF45 (hc46 1 _ rfl),Ag⟩ ?_
  refine Ox (fun x:{p:Nat×Nat // w36.heap.size≤p.1∧w36.heap.size≤p.2}=>([(1,pt z),(AY z),(BI n2),(Ba n2),(Cf c b27 o28),(BX c),(48,Ac k),(CQ n25),(D5 c k cp40 ax39),(10,pt x.1.2)],⟨w,x.1.1,[(Ak w),(BL c z),(BM z),(Gh n2 c k y34),(DL n2 c aP i cP csG aC cC),(CS c aP i cP z),(CB csG z),(CG csG aC cC z),(Dx y34 n25),(mid (n25+1) w36),(.blk x.1.2 (.cells #[i6 (Dw c k),i6 ((Dw c k)+2),i6 y48.partition,i6 y48.port,.slice none 0 0] 91 (0,0)) true)]⟩)) (fun hK => ?_) ?_
  ·refine Ij [1,15] ?_
   refine List.forall_mem_cons.2 ⟨?_,List.forall_mem_cons.2 ⟨?_,fun _ h=>absurd h List.not_mem_nil⟩⟩
   ·refine G7 [] [] 77 #[i6 2,pt n2] (some 60) (by as_aux_lemma=>kernel_rfl) rfl rfl Ag ?_
    intro w51 hw51
    refine BP (args:=[i6 2,pt n2]) 10 ⟨w,w36.heap.size,[(Ak w),(BL c z),(BM z),(Ea n2 c k),(DL n2 c aP i cP csG aC cC),(CS c aP i cP z),(CB csG z),(CG csG aC cC z),(Dx y34 n25),(mid (n25+1) w36)]⟩ Tryd.func77 rfl (by kernel_rfl) (by kernel_rfl) hw51 ?_
    refine q_c 17 0 [] [[o0],[(a1 3),o0],[(a1 3),o0,(ov (i6 ((Dw c k)+2))),(a1 3)],[o0,o0]] [Qb n2,Qb n2,Wr ((Dw c k:Int)+2) ((Dw c k)+2),Qb n2] [(3,i6 (Dw c k))] ⟨w,w36.heap.size,[(Ak w),(BL c z),(BM z),(QS n2 c k),(DL n2 c aP i cP csG aC cC),(CS c aP i cP z),(CB csG z),(CG csG aC cC z),(Dx y34 n25),(mid (n25+1) w36)]⟩ rfl ⟨rfl,rfl,CU,rfl,Ag⟩ ?_
    refine AX [] [] (i6 (Dw c k)) Ag ?_
    intro w52 hw52
    have hs53:=hw52
    refine⟨_,_,rfl,hs53,.inr (fun c hc=>hs53.all c (by first | exact hc | exact DI (is:=[0,1,2,4,5,6,7,8,9]) rfl c hc)), ?_⟩
    refine CZ [1,2,4,5,46,47,48,7,9,61,62,68,72,60] [(1,pt z),(AY z),(BI n2),(Ba n2),(Cf c b27 o28),(BX c),(48,Ac k),(CQ n25),(D5 c k cp40 ax39),(Lh n2),(62,.agg (BH.arr y34)),(68,i6 y48.partition),(72,i6 y48.port),(60,i6 (Dw c k))] ?_
    refine Ij [4,15] ?_
    refine List.forall_mem_cons.2 ⟨?_,List.forall_mem_cons.2 ⟨?_,fun _ h=>absurd h List.not_mem_nil⟩⟩
    ·refine G7 [] [] 40 #[.agg (BH.arr y34)] (some 63) (by as_aux_lemma=>kernel_rfl) rfl rfl Ag ?_
     intro w54 hw54
     refine(MX w54 y34 (he33.ext (hw54.ext rfl) (fun _ h=>h))).mono ?_
     rintro e w55 ⟨rfl,hkw55⟩
     have hnw55:w36.heap.size≤w55.heap.size:=EO hw54 hkw55
     have hs56:=hw54.keeps hkw55
     refine⟨_,_,rfl,hs56,.inr (fun c hc=>hs56.all c (by first | exact hc | exact DI (is:=[0,1,2,4,5,6,7,8,9]) rfl c hc)), ?_⟩
     refine CZ [1,2,4,5,46,47,48,7,9,61,68,72,60,63] [(1,pt z),(AY z),(BI n2),(Ba n2),(Cf c b27 o28),(BX c),(48,Ac k),(CQ n25),(D5 c k cp40 ax39),(Lh n2),(68,i6 y48.partition),(72,i6 y48.port),(60,i6 (Dw c k)),(63,i6 (BO y34))] ?_
     refine Ij [5,15] ?_
     refine List.forall_mem_cons.2 ⟨?_,List.forall_mem_cons.2 ⟨?_,fun _ h=>absurd h List.not_mem_nil⟩⟩
     ·refine G7 [] [] 77 #[i6 (BO y34),pt n2] (some 64) (by as_aux_lemma=>kernel_rfl) rfl rfl Ag ?_
      intro w57 hw57
      refine BP (args:=[i6 (BO y34),pt n2]) 10 ⟨w,w55.heap.size,[(Ak w),(BL c z),(BM z),(QS n2 c k),(DL n2 c aP i cP csG aC cC),(CS c aP i cP z),(CB csG z),(CG csG aC cC z),(Dx y34 n25),(mid (n25+1) w36)]⟩ Tryd.func77 rfl (by kernel_rfl) (by kernel_rfl) hw57 ?_
      refine q_c 17 0 [] [[o0],[(a1 3),o0],[(a1 3),o0,(ov (i6 (((Dw c k)+2)+(BO y34)))),(a1 3)],[o0,o0]] [Qb n2,Qb n2,Wr (((Dw c k)+2:Int)+(BO y34)) (((Dw c k)+2)+(BO y34)),Qb n2] [(3,i6 ((Dw c k)+2))] ⟨w,w55.heap.size,[(Ak w),(BL c z),(BM z),(Gh n2 c k y34),(DL n2 c aP i cP csG aC cC),(CS c aP i cP z),(CB csG z),(CG csG aC cC z),(Dx y34 n25),(mid (n25+1) w36)]⟩ rfl ⟨rfl,rfl,CU,rfl,Ag⟩ ?_
      refine AX [] [] (i6 ((Dw c k)+2)) Ag ?_
      intro w58 hw58
      have hs59:=hw58
      refine⟨_,_,rfl,hs59,.inr (fun c hc=>hs59.all c (by first | exact hc | exact DI (is:=[0,1,2,4,5,6,7,8,9]) rfl c hc)), ?_⟩
      refine CZ [1,2,4,5,46,47,48,7,9,68,72,60,64] [(1,pt z),(AY z),(BI n2),(Ba n2),(Cf c b27 o28),(BX c),(48,Ac k),(CQ n25),(D5 c k cp40 ax39),(68,i6 y48.partition),(72,i6 y48.port),(60,i6 (Dw c k)),(64,i6 ((Dw c k)+2))] ?_
      refine Dc [(14,o0)] [1,2,4,5,46,47,48,7,9,73] [] (Dj 15 2) [(1,pt z),(AY z),(BI n2),(Ba n2),(Cf c b27 o28),(BX c),(48,Ac k),(CQ n25),(D5 c k cp40 ax39),(QK c k y48)] Ag ?_
      refine Bo 15 ?_
      refine Bq o0 [1,2,4,5,46,47,48,7,9,73,10] [] [(1,pt z),(AY z),(BI n2),(Ba n2),(Cf c b27 o28),(BX c),(48,Ac k),(CQ n25),(D5 c k cp40 ax39),(QK c k y48),(N9 w55)] ⟨w,w55.heap.size+1,[(Ak w),(BL c z),(BM z),(Gh n2 c k y34),(DL n2 c aP i cP csG aC cC),(CS c aP i cP z),(CB csG z),(CG csG aC cC z),(Dx y34 n25),(mid (n25+1) w36),(TA w55)]⟩ [0,1,2,4,5,6,7,8,9] Ag (.inr rfl) ?_
      refine Bo 16 ?_
      refine Bq (an 5 10) [1,2,4,5,46,47,48,7,9,10] [Qb w55.heap.size,Qb w55.heap.size,Qb w55.heap.size,Qb w55.heap.size,Qb w55.heap.size] [(1,pt z),(AY z),(BI n2),(Ba n2),(Cf c b27 o28),(BX c),(48,Ac k),(CQ n25),(D5 c k cp40 ax39),(N9 w55)] ⟨w,w55.heap.size+1,(Qg n2 c aP i cP csG k y48 w55 w36 aC cC z y34 n25 w)⟩ [] ⟨rfl,rfl,rfl,rfl,rfl,Ag⟩ (.inl rfl) ?_
      refine D8 17 [0,1,2,3,4,5,6,7,8,9,10] (Qg n2 c aP i cP csG k y48 w55 w36 aC cC z y34 n25 w) rfl rfl ?_
      refine CV ?_
      refine BR [1,2,4,5,46,47,48,7,9,10] [(1,pt z),(AY z),(BI n2),(Ba n2),(Cf c b27 o28),(BX c),(48,Ac k),(CQ n25),(D5 c k cp40 ax39),(N9 w55)] ?_
      refine Cc [0,1,2,3,4,5,6,7,8,9,10] (Qg n2 c aP i cP csG k y48 w55 w36 aC cC z y34 n25 w) rfl rfl ?_
      exact hK ⟨(w55.heap.size+1,w55.heap.size),by first | omega | (dsimp only;omega)⟩
     refine Bq o0 [1,2,4,5,46,47,48,7,9,61,68,72,60,63,10] [] [(1,pt z),(AY z),(BI n2),(Ba n2),(Cf c b27 o28),(BX c),(48,Ac k),(CQ n25),(D5 c k cp40 ax39),(Lh n2),(68,i6 y48.partition),(72,i6 y48.port),(60,i6 (Dw c k)),(63,i6 (BO y34)),(N9 w55)] ⟨w,w55.heap.size+1,[(Ak w),(BL c z),(BM z),(QS n2 c k),(DL n2 c aP i cP csG aC cC),(CS c aP i cP z),(CB csG z),(CG csG aC cC z),(Dx y34 n25),(mid (n25+1) w36),(TA w55)]⟩ [0,1,2,4,5,6,7,8,9] Ag (.inr rfl) ?_
     refine Bo 5 ?_
     refine G7 [] [] 77 #[i6 (BO y34),pt n2] (some 64) (by as_aux_lemma=>kernel_rfl) rfl rfl Ag ?_
     intro w60 hw60
     refine BP (args:=[i6 (BO y34),pt n2]) 10 ⟨w,w55.heap.size+1,[(Ak w),(BL c z),(BM z),(QS n2 c k),(DL n2 c aP i cP csG aC cC),(CS c aP i cP z),(CB csG z),(CG csG aC cC z),(Dx y34 n25),(mid (n25+1) w36),(TA w55)]⟩ Tryd.func77 rfl (by kernel_rfl) (by kernel_rfl) hw60 ?_
     refine q_c 17 0 [] [[o0],[(a1 3),o0],[(a1 3),o0,(ov (i6 (((Dw c k)+2)+(BO y34)))),(a1 3)],[o0,o0]] [Qb n2,Qb n2,Wr (((Dw c k)+2:Int)+(BO y34)) (((Dw c k)+2)+(BO y34)),Qb n2] [(3,i6 ((Dw c k)+2))] ⟨w,w55.heap.size+1,[(Ak w),(BL c z),(BM z),(Gh n2 c k y34),(DL n2 c aP i cP csG aC cC),(CS c aP i cP z),(CB csG z),(CG csG aC cC z),(Dx y34 n25),(mid (n25+1) w36),(TA w55)]⟩ rfl ⟨rfl,rfl,CU,rfl,Ag⟩ ?_
     refine AX [] [] (i6 ((Dw c k)+2)) Ag ?_
     intro w61 hw61
     have hs62:=hw61
     refine⟨_,_,rfl,hs62,.inr (fun c hc=>hs62.all c (by first | exact hc | exact DI (is:=[0,1,2,4,5,6,7,8,9]) rfl c hc)), ?_⟩
     refine CZ [1,2,4,5,46,47,48,7,9,68,72,60,10,64] [(1,pt z),(AY z),(BI n2),(Ba n2),(Cf c b27 o28),(BX c),(48,Ac k),(CQ n25),(D5 c k cp40 ax39),(68,i6 y48.partition),(72,i6 y48.port),(60,i6 (Dw c k)),(N9 w55),(64,i6 ((Dw c k)+2))] ?_
     refine Dc [(14,o0)] [1,2,4,5,46,47,48,7,9,10,73] [] (Dj 16 1) [(1,pt z),(AY z),(BI n2),(Ba n2),(Cf c b27 o28),(BX c),(48,Ac k),(CQ n25),(D5 c k cp40 ax39),(N9 w55),(QK c k y48)] Ag ?_
     refine Bo 16 ?_
     refine Bq (an 5 10) [1,2,4,5,46,47,48,7,9,10] [Qb w55.heap.size,Qb w55.heap.size,Qb w55.heap.size,Qb w55.heap.size,Qb w55.heap.size] [(1,pt z),(AY z),(BI n2),(Ba n2),(Cf c b27 o28),(BX c),(48,Ac k),(CQ n25),(D5 c k cp40 ax39),(N9 w55)] ⟨w,w55.heap.size+1,(Qg n2 c aP i cP csG k y48 w55 w36 aC cC z y34 n25 w)⟩ [] ⟨rfl,rfl,rfl,rfl,rfl,Ag⟩ (.inl rfl) ?_
     refine D8 17 [0,1,2,3,4,5,6,7,8,9,10] (Qg n2 c aP i cP csG k y48 w55 w36 aC cC z y34 n25 w) rfl rfl ?_
     refine CV ?_
     refine BR [1,2,4,5,46,47,48,7,9,10] [(1,pt z),(AY z),(BI n2),(Ba n2),(Cf c b27 o28),(BX c),(48,Ac k),(CQ n25),(D5 c k cp40 ax39),(N9 w55)] ?_
     refine Cc [0,1,2,3,4,5,6,7,8,9,10] (Qg n2 c aP i cP csG k y48 w55 w36 aC cC z y34 n25 w) rfl rfl ?_
     exact hK ⟨(w55.heap.size+1,w55.heap.size),by first | omega | (dsimp only;omega)⟩
    refine Bq o0 [1,2,4,5,46,47,48,7,9,61,62,68,72,60,10] [] [(1,pt z),(AY z),(BI n2),(Ba n2),(Cf c b27 o28),(BX c),(48,Ac k),(CQ n25),(D5 c k cp40 ax39),(Lh n2),(62,.agg (BH.arr y34)),(68,i6 y48.partition),(72,i6 y48.port),(60,i6 (Dw c k)),(Js w36)] ⟨w,w36.heap.size+1,(Tf n2 c aP i cP csG k w36 aC cC z y34 n25 w)⟩ [0,1,2,4,5,6,7,8,9] Ag (.inr rfl) ?_
    refine Bo 4 ?_
    refine G7 [] [] 40 #[.agg (BH.arr y34)] (some 63) (by as_aux_lemma=>kernel_rfl) rfl rfl Ag ?_
    intro w63 hw63
    refine(MX w63 y34 (he33.ext (hw63.ext rfl) (fun _ h=>h))).mono ?_
    rintro e w64 ⟨rfl,hkw64⟩
    have hnw64:w36.heap.size+1≤w64.heap.size:=EO hw63 hkw64
    have hs65:=hw63.keeps hkw64
    refine⟨_,_,rfl,hs65,.inr (fun c hc=>hs65.all c (by first | exact hc | exact DI (is:=[0,1,2,4,5,6,7,8,9]) rfl c hc)), ?_⟩
    refine CZ [1,2,4,5,46,47,48,7,9,61,68,72,60,10,63] [(1,pt z),(AY z),(BI n2),(Ba n2),(Cf c b27 o28),(BX c),(48,Ac k),(CQ n25),(D5 c k cp40 ax39),(Lh n2),(68,i6 y48.partition),(72,i6 y48.port),(60,i6 (Dw c k)),(Js w36),(63,i6 (BO y34))] ?_
    refine Bo 5 ?_
    refine G7 [] [] 77 #[i6 (BO y34),pt n2] (some 64) (by as_aux_lemma=>kernel_rfl) rfl rfl Ag ?_
    intro w66 hw66
    refine BP (args:=[i6 (BO y34),pt n2]) 10 ⟨w,w64.heap.size,(Tf n2 c aP i cP csG k w36 aC cC z y34 n25 w)⟩ Tryd.func77 rfl (by kernel_rfl) (by kernel_rfl) hw66 ?_
    refine q_c 17 0 [] [[o0],[(a1 3),o0],[(a1 3),o0,(ov (i6 (((Dw c k)+2)+(BO y34)))),(a1 3)],[o0,o0]] [Qb n2,Qb n2,Wr (((Dw c k)+2:Int)+(BO y34)) (((Dw c k)+2)+(BO y34)),Qb n2] [(3,i6 ((Dw c k)+2))] ⟨w,w64.heap.size,[(Ak w),(BL c z),(BM z),(Gh n2 c k y34),(DL n2 c aP i cP csG aC cC),(CS c aP i cP z),(CB csG z),(CG csG aC cC z),(Dx y34 n25),(mid (n25+1) w36),(Ri w36)]⟩ rfl ⟨rfl,rfl,CU,rfl,Ag⟩ ?_
    refine AX [] [] (i6 ((Dw c k)+2)) Ag ?_
    intro w67 hw67
    have hs68:=hw67
    refine⟨_,_,rfl,hs68,.inr (fun c hc=>hs68.all c (by first | exact hc | exact DI (is:=[0,1,2,4,5,6,7,8,9]) rfl c hc)), ?_⟩
    refine CZ [1,2,4,5,46,47,48,7,9,68,72,60,10,64] [(1,pt z),(AY z),(BI n2),(Ba n2),(Cf c b27 o28),(BX c),(48,Ac k),(CQ n25),(D5 c k cp40 ax39),(68,i6 y48.partition),(72,i6 y48.port),(60,i6 (Dw c k)),(Js w36),(64,i6 ((Dw c k)+2))] ?_
    refine Dc [(14,o0)] [1,2,4,5,46,47,48,7,9,10,73] [] (Dj 16 1) [(1,pt z),(AY z),(BI n2),(Ba n2),(Cf c b27 o28),(BX c),(48,Ac k),(CQ n25),(D5 c k cp40 ax39),(Js w36),(QK c k y48)] Ag ?_
    refine Bo 16 ?_
    refine Bq (an 5 10) [1,2,4,5,46,47,48,7,9,10] [Qb w36.heap.size,Qb w36.heap.size,Qb w36.heap.size,Qb w36.heap.size,Qb w36.heap.size] [(1,pt z),(AY z),(BI n2),(Ba n2),(Cf c b27 o28),(BX c),(48,Ac k),(CQ n25),(D5 c k cp40 ax39),(Js w36)] ⟨w,w64.heap.size,(Qi n2 c aP i cP csG k y48 w36 aC cC z y34 n25 w)⟩ [] ⟨rfl,rfl,rfl,rfl,rfl,Ag⟩ (.inl rfl) ?_
    refine D8 17 [0,1,2,3,4,5,6,7,8,9,10] (Qi n2 c aP i cP csG k y48 w36 aC cC z y34 n25 w) rfl rfl ?_
    refine CV ?_
    refine BR [1,2,4,5,46,47,48,7,9,10] [(1,pt z),(AY z),(BI n2),(Ba n2),(Cf c b27 o28),(BX c),(48,Ac k),(CQ n25),(D5 c k cp40 ax39),(Js w36)] ?_
    refine Cc [0,1,2,3,4,5,6,7,8,9,10] (Qi n2 c aP i cP csG k y48 w36 aC cC z y34 n25 w) rfl rfl ?_
    exact hK ⟨(w64.heap.size,w36.heap.size),by first | omega | (dsimp only;omega)⟩
   refine Bq o0 [1,2,4,5,46,47,48,7,9,59,61,62,68,72,10] [] [(1,pt z),(AY z),(BI n2),(Ba n2),(Cf c b27 o28),(BX c),(48,Ac k),(CQ n25),(D5 c k cp40 ax39),(59,.func (.func 77) #[] #[pt n2]),(Lh n2),(62,.agg (BH.arr y34)),(68,i6 y48.partition),(72,i6 y48.port),(Js w36)] ⟨w,w36.heap.size+1,[(Ak w),(BL c z),(BM z),(Ea n2 c k),(DL n2 c aP i cP csG aC cC),(CS c aP i cP z),(CB csG z),(CG csG aC cC z),(Dx y34 n25),(mid (n25+1) w36),(Ri w36)]⟩ [0,1,2,4,5,6,7,8,9] Ag (.inr rfl) ?_
   refine Bo 1 ?_
   refine G7 [] [] 77 #[i6 2,pt n2] (some 60) (by as_aux_lemma=>kernel_rfl) rfl rfl Ag ?_
   intro w69 hw69
   refine BP (args:=[i6 2,pt n2]) 10 ⟨w,w36.heap.size+1,[(Ak w),(BL c z),(BM z),(Ea n2 c k),(DL n2 c aP i cP csG aC cC),(CS c aP i cP z),(CB csG z),(CG csG aC cC z),(Dx y34 n25),(mid (n25+1) w36),(Ri w36)]⟩ Tryd.func77 rfl (by kernel_rfl) (by kernel_rfl) hw69 ?_
   refine q_c 17 0 [] [[o0],[(a1 3),o0],[(a1 3),o0,(ov (i6 ((Dw c k)+2))),(a1 3)],[o0,o0]] [Qb n2,Qb n2,Wr ((Dw c k:Int)+2) ((Dw c k)+2),Qb n2] [(3,i6 (Dw c k))] ⟨w,w36.heap.size+1,(Tf n2 c aP i cP csG k w36 aC cC z y34 n25 w)⟩ rfl ⟨rfl,rfl,CU,rfl,Ag⟩ ?_
   refine AX [] [] (i6 (Dw c k)) Ag ?_
   intro w70 hw70
   have hs71:=hw70
   refine⟨_,_,rfl,hs71,.inr (fun c hc=>hs71.all c (by first | exact hc | exact DI (is:=[0,1,2,4,5,6,7,8,9]) rfl c hc)), ?_⟩
   refine CZ [1,2,4,5,46,47,48,7,9,61,62,68,72,10,60] [(1,pt z),(AY z),(BI n2),(Ba n2),(Cf c b27 o28),(BX c),(48,Ac k),(CQ n25),(D5 c k cp40 ax39),(Lh n2),(62,.agg (BH.arr y34)),(68,i6 y48.partition),(72,i6 y48.port),(Js w36),(60,i6 (Dw c k))] ?_
   refine Bo 4 ?_
   refine G7 [] [] 40 #[.agg (BH.arr y34)] (some 63) (by as_aux_lemma=>kernel_rfl) rfl rfl Ag ?_
   intro w72 hw72
   refine(MX w72 y34 (he33.ext (hw72.ext rfl) (fun _ h=>h))).mono ?_
   rintro e w73 ⟨rfl,hkw73⟩
   have hnw73:w36.heap.size+1≤w73.heap.size:=EO hw72 hkw73
   have hs74:=hw72.keeps hkw73
   refine⟨_,_,rfl,hs74,.inr (fun c hc=>hs74.all c (by first | exact hc | exact DI (is:=[0,1,2,4,5,6,7,8,9]) rfl c hc)), ?_⟩
   refine CZ [1,2,4,5,46,47,48,7,9,61,68,72,10,60,63] [(1,pt z),(AY z),(BI n2),(Ba n2),(Cf c b27 o28),(BX c),(48,Ac k),(CQ n25),(D5 c k cp40 ax39),(Lh n2),(68,i6 y48.partition),(72,i6 y48.port),(Js w36),(60,i6 (Dw c k)),(63,i6 (BO y34))] ?_
   refine Bo 5 ?_
   refine G7 [] [] 77 #[i6 (BO y34),pt n2] (some 64) (by as_aux_lemma=>kernel_rfl) rfl rfl Ag ?_
   intro w75 hw75
   refine BP (args:=[i6 (BO y34),pt n2]) 10 ⟨w,w73.heap.size,(Tf n2 c aP i cP csG k w36 aC cC z y34 n25 w)⟩ Tryd.func77 rfl (by kernel_rfl) (by kernel_rfl) hw75 ?_
   refine q_c 17 0 [] [[o0],[(a1 3),o0],[(a1 3),o0,(ov (i6 (((Dw c k)+2)+(BO y34)))),(a1 3)],[o0,o0]] [Qb n2,Qb n2,Wr (((Dw c k)+2:Int)+(BO y34)) (((Dw c k)+2)+(BO y34)),Qb n2] [(3,i6 ((Dw c k)+2))] ⟨w,w73.heap.size,[(Ak w),(BL c z),(BM z),(Gh n2 c k y34),(DL n2 c aP i cP csG aC cC),(CS c aP i cP z),(CB csG z),(CG csG aC cC z),(Dx y34 n25),(mid (n25+1) w36),(Ri w36)]⟩ rfl ⟨rfl,rfl,CU,rfl,Ag⟩ ?_
   refine AX [] [] (i6 ((Dw c k)+2)) Ag ?_
   intro w76 hw76
   have hs77:=hw76
   refine⟨_,_,rfl,hs77,.inr (fun c hc=>hs77.all c (by first | exact hc | exact DI (is:=[0,1,2,4,5,6,7,8,9]) rfl c hc)), ?_⟩
   refine CZ [1,2,4,5,46,47,48,7,9,68,72,10,60,64] [(1,pt z),(AY z),(BI n2),(Ba n2),(Cf c b27 o28),(BX c),(48,Ac k),(CQ n25),(D5 c k cp40 ax39),(68,i6 y48.partition),(72,i6 y48.port),(Js w36),(60,i6 (Dw c k)),(64,i6 ((Dw c k)+2))] ?_
   refine Dc [(14,o0)] [1,2,4,5,46,47,48,7,9,10,73] [] (Dj 16 1) [(1,pt z),(AY z),(BI n2),(Ba n2),(Cf c b27 o28),(BX c),(48,Ac k),(CQ n25),(D5 c k cp40 ax39),(Js w36),(QK c k y48)] Ag ?_
   refine Bo 16 ?_
   refine Bq (an 5 10) [1,2,4,5,46,47,48,7,9,10] [Qb w36.heap.size,Qb w36.heap.size,Qb w36.heap.size,Qb w36.heap.size,Qb w36.heap.size] [(1,pt z),(AY z),(BI n2),(Ba n2),(Cf c b27 o28),(BX c),(48,Ac k),(CQ n25),(D5 c k cp40 ax39),(Js w36)] ⟨w,w73.heap.size,(Qi n2 c aP i cP csG k y48 w36 aC cC z y34 n25 w)⟩ [] ⟨rfl,rfl,rfl,rfl,rfl,Ag⟩ (.inl rfl) ?_
   refine D8 17 [0,1,2,3,4,5,6,7,8,9,10] (Qi n2 c aP i cP csG k y48 w36 aC cC z y34 n25 w) rfl rfl ?_
   refine CV ?_
   refine BR [1,2,4,5,46,47,48,7,9,10] [(1,pt z),(AY z),(BI n2),(Ba n2),(Cf c b27 o28),(BX c),(48,Ac k),(CQ n25),(D5 c k cp40 ax39),(Js w36)] ?_
   refine Cc [0,1,2,3,4,5,6,7,8,9,10] (Qi n2 c aP i cP csG k y48 w36 aC cC z y34 n25 w) rfl rfl ?_
   exact hK ⟨(w73.heap.size,w36.heap.size),by first | omega | (dsimp only;omega)⟩
  rintro⟨⟨n49,b50⟩,hJ78⟩
  simp only at hJ78
  show E _ _ [(1,pt z),(AY z),(BI n2),(Ba n2),(Cf c b27 o28),(BX c),(48,Ac k),(CQ n25),(D5 c k cp40 ax39),(E8 b50)] _ ⟨w,n49,[(Ak w),(BL c z),(BM z),(Gh n2 c k y34),(DL n2 c aP i cP csG aC cC),(CS c aP i cP z),(CB csG z),(CG csG aC cC z),(Dx y34 n25),(mid (n25+1) w36),(bk b50 #[i6 (Dw c k),i6 ((Dw c k)+2),i6 y48.partition,i6 y48.port,.slice none 0 0] 91)]⟩ _ _ _
  refine Ns 7 0 [] [[o0,o0,o0]] [] [(1,pt z),(AY z),(BI n2),(Ba n2),(Cf c b27 o28),(BX c),(48,Ac k),(CQ n25),(E8 b50),(GR c k cp40 ax39),(EJ c k),(76,i6 0)] rfl Ag ?_
  refine Nb z 99 3 CY.cells ?_
  refine DZ [1,2,4,5,7,10,46,47,48,74,75,76] [(1,pt z),(AY z),(BI n2),(Ba n2),(CQ n25),(E8 b50),(Cf c b27 o28),(BX c),(48,Ac k),(GR c k cp40 ax39),(EJ c k),(76,i6 0)] ?_
  refine DW (fun m a w'=>∃ (n80:Nat) (j:Nat) (aD:Option Addr) (cD:Nat),m=(Ce c (k:Int) false).length - j∧n49≤n80∧(j≤(Ce c (k:Int) false).length)∧St 148 [(1,pt z),(AY z),(BI n2),(Ba n2),(CQ n25),(E8 b50),(Cf c b27 o28),(BX c),(48,Ac k),(GR c k cp40 ax39),(EJ c k),(76,Ac j)] [] ⟨w,n80,[(Ak w),(BL c z),(BM z),(Gv n2 c k j),(DL n2 c aP i cP csG aC cC),(CS c aP i cP z),(CB csG z),(CG csG aC cC z),(Dx y34 n25),(mid (n25+1) w36),(GI c k y48 aD cD j b50),(Gw c k aD cD j z)]⟩ a w') ((Ce c (k:Int) false).length - 0) ?_ ?_
  ·intro a w' hs;exact⟨n49,0,none,0,rfl,Nat.le_refl _,Nat.zero_le _,by(try dsimp only[GI,DL,Fv,BM,Gh,Gv,Ea,Dx,BL,CS,Gw,CG,CB,Cf,EJ,Gu,Lh,BI,GR,D5,Et,BX,Ba,AY,E8,CQ,G6,Gx]at hs ⊢);rw[show JW c k 0=((Dw c k)+2)+(BO y34)from by unfold JW;rw[←hy34];omega];exact hs⟩
  rintro m a w' ⟨n80,j,aD,cD,rfl,hn79,hkj,hs⟩
  refine(?_:G Tryd.prog 148 [(1,pt z),(AY z),(BI n2),(Ba n2),(CQ n25),(E8 b50),(Cf c b27 o28),(BX c),(48,Ac k),(GR c k cp40 ax39),(EJ c k),(76,Ac j)] [] ⟨w,n80,[(Ak w),(BL c z),(BM z),(Gv n2 c k j),(DL n2 c aP i cP csG aC cC),(CS c aP i cP z),(CB csG z),(CG csG aC cC z),(Dx y34 n25),(mid (n25+1) w36),(GI c k y48 aD cD j b50),(Gw c k aD cD j z)]⟩ _ _ _) a w' hs
  clear hs a w'
  have hdb:=YI hfine (show k<c.Am.xs.length by omega) (show j≤4 by unfold Je at hEd;omega)
  have hdl:(Ee c k j).length=j:=QE
  refine DC ?_
  by_cases h81:(j:Int)<(((Ce c (k:Int) false).length:Nat):Int)
  ·refine A7 10 0 [1] [[oT]] [BT ((j:Int)<(((Ce c (k:Int) false).length:Nat):Int))] [(1,pt z),(AY z),(BI n2),(Ba n2),(CQ n25),(E8 b50),(Cf c b27 o28),(BX c),(48,Ac k),(GR c k cp40 ax39),(EJ c k),(76,Ac j),(77,.bool true)] rfl ⟨bt,Ag⟩ ?_
   obtain⟨b82,o83,ha84,hF86,hc85⟩:=((⟨hDw36,Rx hfine⟩:Ig EW.cells 2 EW.ok _ _ _)).1.all (show 0<(Ce c (k:Int) false).length by omega)
   replace ha84:ax39=some ⟨b82,o83,none⟩:=ha84
   refine IM [(1,pt z),(AY z),(BI n2),(Ba n2),(CQ n25),(E8 b50),(Cf c b27 o28),(BX c),(48,Ac k),(Iq c k b82 o83 cp40),(EJ c k),(76,Ac j),(77,.bool true)] (by(try dsimp only[GI,DL,Fv,BM,Gh,Gv,Ea,Dx,BL,CS,Gw,CG,CB,Iq,Cf,EJ,Gu,BI,GR,D5,Et,BX,Ba,AY,E8,CQ,G6,Gx]);simp only[ha84]) ?_
   have hc87:=hc85 j (show j<(Ce c (k:Int) false).length by omega)
   have he88:=((⟨hDw36,Rx hfine⟩:Ig EW.cells 2 EW.ok _ _ _)).2 j (show j<(Ce c (k:Int) false).length by omega)
   obtain⟨y89,hy89⟩:∃ y_,y_=gd (⟨ax39,cp40,Ce c (k:Int) false⟩:Sl EW).xs j:=⟨_,rfl⟩
   rw[←hy89]at he88 hc87
   refine q_c 3 0 [] [[(oi j),(oa [.via 9 (i6 y89.partition),.via 9 (i6 y89.port)]),o0,(an 2 12)]] [Ed j,j<(Ce c (k:Int) false).length,Dt,∀ w',Ch.holds (mid (n25+1) w36) w'→w'.cell? ⟨b82,o83+j*2,none⟩=some (i6 y89.partition),∀ w',Ch.holds (mid (n25+1) w36) w'→w'.cell? ⟨b82,o83+j*2+1,none⟩=some (i6 y89.port),Qb n80,Qb n80] [(1,pt z),(AY z),(BI n2),(Ba n2),(CQ n25),(E8 b50),(Cf c b27 o28),(BX c),(48,Ac k),(Iq c k b82 o83 cp40),(EJ c k),(76,Ac j),(12,pt n80)] ⟨w,n80+1,[(Ak w),(BL c z),(BM z),(Gv n2 c k j),(DL n2 c aP i cP csG aC cC),(CS c aP i cP z),(CB csG z),(CG csG aC cC z),(Dx y34 n25),(mid (n25+1) w36),(GI c k y48 aD cD j b50),(Gw c k aD cD j z),(KE y89 n80)]⟩ rfl ⟨rfl,(by omega),rfl,OE hF86 (hc87 0 _ rfl),OE hF86 (hc87 1 _ rfl),rfl,rfl,Ag⟩ ?_
   refine DN 14 [0,1,2,4,5,6,7,8,9,10,12] [(Ak w),(BL c z),(BM z),(DL n2 c aP i cP csG aC cC),(CS c aP i cP z),(CB csG z),(CG csG aC cC z),(Dx y34 n25),(mid (n25+1) w36),(GI c k y48 aD cD j b50),(KE y89 n80)] rfl rfl ?_
   refine Dc [(0,o0),(1,(a1 9)),(2,o0),(3,(a1 10)),(4,o0),(5,(a1 10)),(6,o0),(7,(an 3 7))] [1,2,4,5,7,10,46,47,48,74,75,76,81,83,85,86,87] [Qb b50,Qb n80,Qb n80,Qb n25,Qb n25,Qb n25] (Dj 8 7) [(1,pt z),(AY z),(BI n2),(Ba n2),(CQ n25),(E8 b50),(Cf c b27 o28),(BX c),(48,Ac k),(Iq c k b82 o83 cp40),(EJ c k),(76,Ac j),(81,.slice aD ((Ee c k j).length) cD),(83,i6 y89.partition),(85,i6 y89.port),(86,.func (.func 77) #[] #[pt n2]),(87,.agg (BH.arr y34))] ⟨rfl,rfl,rfl,rfl,rfl,rfl,Ag⟩ ?_
   refine Bo 8 ?_
   refine G7 [] [] 41 #[.agg (BH.arr y34)] (some 88) (by as_aux_lemma=>kernel_rfl) rfl rfl Ag ?_
   intro w90 hw90
   refine(Yg w90 y34 (he33.ext (hw90.ext rfl) (fun _ h=>h))).mono ?_
   rintro e w91 ⟨rfl,hkw91⟩
   have hnw91:n80+1≤w91.heap.size:=EO hw90 hkw91
   have hs92:=hw90.keeps hkw91
   refine⟨_,_,rfl,hs92,.inr (fun c hc=>hs92.all c (by first | exact hc | exact DI (is:=[0,1,2,4,5,6,7,8,9,10,12]) rfl c hc)), ?_⟩
   refine CZ [1,2,4,5,7,10,46,47,48,74,75,76,81,83,85,86,88] [(1,pt z),(AY z),(BI n2),(Ba n2),(CQ n25),(E8 b50),(Cf c b27 o28),(BX c),(48,Ac k),(Iq c k b82 o83 cp40),(EJ c k),(76,Ac j),(81,.slice aD ((Ee c k j).length) cD),(83,i6 y89.partition),(85,i6 y89.port),(86,.func (.func 77) #[] #[pt n2]),(88,i6 (portOf y34))] ?_
   refine Bo 9 ?_
   refine G7 [] [] 77 #[i6 (portOf y34),pt n2] (some 89) (by as_aux_lemma=>kernel_rfl) rfl rfl Ag ?_
   intro w93 hw93
   refine BP (args:=[i6 (portOf y34),pt n2]) 10 ⟨w,w91.heap.size,[(Ak w),(BL c z),(BM z),(Gv n2 c k j),(DL n2 c aP i cP csG aC cC),(CS c aP i cP z),(CB csG z),(CG csG aC cC z),(Dx y34 n25),(mid (n25+1) w36),(GI c k y48 aD cD j b50),(Gw c k aD cD j z),(KE y89 n80)]⟩ Tryd.func77 rfl (by kernel_rfl) (by kernel_rfl) hw93 ?_
   refine q_c 17 0 [] [[o0],[(a1 3),o0],[(a1 3),o0,(ov (i6 ((JW c k j)+(portOf y34)))),(a1 3)],[o0,o0]] [Qb n2,Qb n2,Wr ((JW c k j:Int)+(portOf y34)) ((JW c k j)+(portOf y34)),Qb n2] [(3,i6 (JW c k j))] ⟨w,w91.heap.size,[(Ak w),(BL c z),(BM z),(MK n2 c k j y34),(DL n2 c aP i cP csG aC cC),(CS c aP i cP z),(CB csG z),(CG csG aC cC z),(Dx y34 n25),(mid (n25+1) w36),(GI c k y48 aD cD j b50),(Gw c k aD cD j z),(KE y89 n80)]⟩ rfl ⟨rfl,rfl,CU,rfl,Ag⟩ ?_
   refine AX [] [] (i6 (JW c k j)) Ag ?_
   intro w94 hw94
   have hs95:=hw94
   refine⟨_,_,rfl,hs95,.inr (fun c hc=>hs95.all c (by first | exact hc | exact DI (is:=[0,1,2,4,5,6,7,8,9,10,12]) rfl c hc)), ?_⟩
   refine CZ [1,2,4,5,7,10,46,47,48,74,75,76,81,83,85,89] [(1,pt z),(AY z),(BI n2),(Ba n2),(CQ n25),(E8 b50),(Cf c b27 o28),(BX c),(48,Ac k),(Iq c k b82 o83 cp40),(EJ c k),(76,Ac j),(81,.slice aD ((Ee c k j).length) cD),(83,i6 y89.partition),(85,i6 y89.port),(89,i6 (JW c k j))] ?_
   refine Dc [(10,o0)] [1,2,4,5,7,10,46,47,48,74,75,76,81,90] [] (Dj 11 4) [(1,pt z),(AY z),(BI n2),(Ba n2),(CQ n25),(E8 b50),(Cf c b27 o28),(BX c),(48,Ac k),(Iq c k b82 o83 cp40),(EJ c k),(76,Ac j),(81,.slice aD ((Ee c k j).length) cD),(90,.agg #[i6 y89.partition,i6 y89.port,i6 (JW c k j)])] Ag ?_
   refine Bo 11 ?_
   refine Bq o0 [1,2,4,5,7,10,46,47,48,74,75,76,81,91] [] [(1,pt z),(AY z),(BI n2),(Ba n2),(CQ n25),(E8 b50),(Cf c b27 o28),(BX c),(48,Ac k),(Iq c k b82 o83 cp40),(EJ c k),(76,Ac j),(81,.slice aD ((Ee c k j).length) cD),(91,.slice (some ⟨w91.heap.size,0,none⟩) 1 1)] ⟨w,w91.heap.size+1,[(Ak w),(BL c z),(BM z),(MK n2 c k j y34),(DL n2 c aP i cP csG aC cC),(CS c aP i cP z),(CB csG z),(CG csG aC cC z),(Dx y34 n25),(mid (n25+1) w36),(GI c k y48 aD cD j b50),(Gw c k aD cD j z),(KE y89 n80),(OL c k j y89 w91)]⟩ [0,1,2,4,5,6,7,8,9,10,12] Ag (.inr rfl) ?_
   refine Bo 12 ?_
   refine OD z 11 13 (Ee c k j) [(⟨y89.partition,y89.port,JW c k j⟩:CY)] CY.cells 99 3 24 (.slice aD ((Ee c k j).length) cD) w91.heap.size 1 1 #[i6 y89.partition,i6 y89.port,i6 (JW c k j)] 99 (0,0) true (some 92) [0,1,2,4,5,6,7,8,9,10,12] (by simp only[List.length_cons,List.length_nil];omega) (show z≤w91.heap.size+1 by omega) (.inr ⟨rfl,rfl⟩) (fun ax96 cp97 n98 (hn99:w91.heap.size+1≤n98) => ?_)
   refine CZ [1,2,4,5,7,10,46,47,48,74,75,76,92] [(1,pt z),(AY z),(BI n2),(Ba n2),(CQ n25),(E8 b50),(Cf c b27 o28),(BX c),(48,Ac k),(Iq c k b82 o83 cp40),(EJ c k),(76,Ac j),(92,.slice ax96 ((Ee c k j++[(⟨y89.partition,y89.port,JW c k j⟩:CY)]).length) cp97)] ?_
   refine Dc [(13,o0)] [1,2,4,5,7,10,46,47,48,74,75,76,92,93] [] (Dj 14 1) [(1,pt z),(AY z),(BI n2),(Ba n2),(CQ n25),(E8 b50),(Cf c b27 o28),(BX c),(48,Ac k),(Iq c k b82 o83 cp40),(EJ c k),(76,Ac j),(92,.slice ax96 ((Ee c k j++[(⟨y89.partition,y89.port,JW c k j⟩:CY)]).length) cp97),(93,.pointer (some ⟨b50,4,none⟩))] Ag ?_
   refine Bo 14 ?_
   refine Bq (a1 10) [1,2,4,5,7,10,46,47,48,74,75,76] [Qb b50] [(1,pt z),(AY z),(BI n2),(Ba n2),(CQ n25),(E8 b50),(Cf c b27 o28),(BX c),(48,Ac k),(Iq c k b82 o83 cp40),(EJ c k),(76,Ac j)] ⟨w,n98,[(Ak w),(BL c z),(BM z),(MK n2 c k j y34),(DL n2 c aP i cP csG aC cC),(CS c aP i cP z),(CB csG z),(CG csG aC cC z),(Dx y34 n25),(mid (n25+1) w36),(Qn c k y48 j b50 ax96 y89 cp97),(OB c k j ax96 y89 cp97 z),(KE y89 n80),(OL c k j y89 w91)]⟩ [] ⟨rfl,Ag⟩ (.inl rfl) ?_
   refine D8 15 [0,1,2,3,4,5,6,7,8,9,10,11,12,13] [(Ak w),(BL c z),(BM z),(MK n2 c k j y34),(DL n2 c aP i cP csG aC cC),(CS c aP i cP z),(CB csG z),(CG csG aC cC z),(Dx y34 n25),(mid (n25+1) w36),(Qn c k y48 j b50 ax96 y89 cp97),(OB c k j ax96 y89 cp97 z),(KE y89 n80),(OL c k j y89 w91)] rfl rfl ?_
   refine CV ?_
   refine Ns 4 0 [] [[(ov (i6 ((j+1:Nat):Int))),o0]] [Wr ((j:Int)+1) (((j+1:Nat):Int))] [(1,pt z),(AY z),(BI n2),(Ba n2),(CQ n25),(E8 b50),(Cf c b27 o28),(BX c),(48,Ac k),(Iq c k b82 o83 cp40),(EJ c k),(76,i6 ((j+1:Nat):Int))] rfl ⟨CU,Ag⟩ ?_
   refine Cc [0,1,2,3,4,5,6,7,8,9,10,11] [(Ak w),(BL c z),(BM z),(MK n2 c k j y34),(DL n2 c aP i cP csG aC cC),(CS c aP i cP z),(CB csG z),(CG csG aC cC z),(Dx y34 n25),(mid (n25+1) w36),(Qn c k y48 j b50 ax96 y89 cp97),(OB c k j ax96 y89 cp97 z)] rfl rfl ?_
   refine Fj [1,2,4,5,7,10,46,47,48,74,75,76] [(1,pt z),(AY z),(BI n2),(Ba n2),(CQ n25),(E8 b50),(Cf c b27 o28),(BX c),(48,Ac k),(GR c k cp40 ax39),(EJ c k),(76,i6 ((j+1:Nat):Int))] (by(try dsimp only[Qn,GI,DL,Fv,OL,BM,Gh,MK,Gv,Ea,Dx,KE,BL,OB,CS,Gw,CG,CB,Iq,Cf,EJ,Gu,BI,GR,D5,Et,BX,Ba,AY,E8,CQ,G6,Gx]);simp only[ha84];rfl) ?_
   refine Cj (fun a w' hs=>⟨(Ce c (k:Int) false).length - (j+1),by omega,n98,(j+1),ax96,cp97,rfl,by omega,by omega,by(try dsimp only[Qn,GI,DL,Fv,OL,BM,Gh,MK,Gv,Ea,Dx,KE,BL,OB,CS,Gw,CG,CB,Iq,Cf,EJ,Gu,BI,GR,D5,Et,BX,Ba,AY,E8,CQ,G6,Gx]at hs ⊢);rw[Z5,Xo,←hy34,show Nj c k j=⟨y89.partition,y89.port,JW c k j⟩from by rw[hy89];rfl];exact hs⟩)
  refine q_c 11 4 [0] [[oF],[o0,(a1 4),(an 5 10),o0]] [BF ((j:Int)<(((Ce c (k:Int) false).length:Nat):Int)),Qb (n2+1),Qb b50,Qb b50,Qb b50,Qb b50,Qb b50] [(1,pt z),(AY z),(BI n2),(Ba n2),(Cf c b27 o28),(BX c),(48,Ac k),(96,.slice aC csG.length cC),(98,.slice (some ⟨n80,0,none⟩) 1 1)] ⟨w,n80+1,[(Ak w),(BL c z),(BM z),(Gv n2 c k j),(DL n2 c aP i cP csG aC cC),(CS c aP i cP z),(CB csG z),(CG csG aC cC z),(Dx y34 n25),(mid (n25+1) w36),(GI c k y48 aD cD j b50),(Gw c k aD cD j z),(SH c k y48 aD cD j n80)]⟩ rfl ⟨bf,rfl,rfl,rfl,rfl,rfl,rfl,Ag⟩ ?_
  refine U4 z 7 12 csG [(⟨Dw c k,(Dw c k)+2,y48.partition,y48.port,(⟨aD,cD,Ee c k j⟩:Sl CY)⟩:Ci)] Ci.cells 91 5 56 (.slice aC csG.length cC) n80 1 1 #[i6 (Dw c k),i6 ((Dw c k)+2),i6 y48.partition,i6 y48.port,.slice aD ((Ee c k j).length) cD] 91 (0,0) true (some 99) (by simp only[List.length_cons,List.length_nil];omega) (show z≤n80+1 by omega) (fun ax100 cp101 n102 (hn103:n80+1≤n102) => ?_)
  refine FD 5 0 [] [[o0,(a1 4)],[(ov (i6 ((k+1:Nat):Int))),o0]] [Qb (n2+1),Wr ((k:Int)+1) (((k+1:Nat):Int))] [(1,pt z),(AY z),(BI n2),(Ba n2),(Cf c b27 o28),(BX c),(48,i6 ((k+1:Nat):Int))] ⟨w,n102,[(Ak w),(BL c z),(BM z),(Gv n2 c k j),(SV n2 c aP i cP ax100 csG k y48 aD cD j cp101),(CS c aP i cP z),(CB csG z),(QP c ax100 csG k y48 aD cD j cp101 z),(Dx y34 n25),(mid (n25+1) w36),(GI c k y48 aD cD j b50),(Gw c k aD cD j z),(SH c k y48 aD cD j n80)]⟩ rfl ⟨rfl,CU,Ag⟩ ?_
  refine e_fam 6 11 [0,1,2,3,4,5,7,8,9,10,12] [(Ak w),(BL c z),(BM z),(Gv n2 c k j),(SV n2 c aP i cP ax100 csG k y48 aD cD j cp101),(CS c aP i cP z),(QP c ax100 csG k y48 aD cD j cp101 z),(Dx y34 n25),(mid (n25+1) w36),(GI c k y48 aD cD j b50),(SH c k y48 aD cD j n80)] ?_
  refine Cc [0,1,2,3,4,5,11,6] [(Ak w),(BL c z),(BM z),(Gv n2 c k j),(SV n2 c aP i cP ax100 csG k y48 aD cD j cp101),(CS c aP i cP z),(LD z 99 3 CY.cells (csG.map Ci.LH++[⟨aD,cD,Ee c k j⟩])),(QP c ax100 csG k y48 aD cD j cp101 z)] rfl rfl ?_
  refine Fj [1,2,4,5,46,47,48] [(1,pt z),(AY z),(BI n2),(Ba n2),(Gu c),(BX c),(48,i6 ((k+1:Nat):Int))] (by(try dsimp only[SV,Qn,GI,SH,DL,Fv,OL,BM,Gh,MK,Gv,Ea,Dx,KE,BL,QP,OB,CS,Gw,CG,CB,Iq,Cf,EJ,Gu,BI,GR,D5,Et,BX,Ba,AY,E8,CQ,G6,Gx]);simp only[ha29];rfl) ?_
  refine Cj (fun a w' hs=>⟨c.Am.xs.length - (k+1),by omega,n102,(k+1),(csG++[(⟨Dw c k,(Dw c k)+2,y48.partition,y48.port,(⟨aD,cD,Ee c k j⟩:Sl CY)⟩:Ci)]),ax100,cp101,rfl,by omega,by omega,by rw[List.length_append,hcl];rfl,Yq hcl hcs (a:=aD) (cp:=cD) (by unfold Jc;rw[←hy48,show Je c k=j from by unfold Je;omega]),by(try dsimp only[SV,Qn,GI,SH,DL,Fv,OL,BM,Gh,MK,Gv,Ea,Dx,KE,BL,QP,OB,CS,Gw,CG,CB,Iq,Cf,EJ,Gu,BI,GR,D5,Et,BX,Ba,AY,E8,CQ,G6,Gx]at hs ⊢);rw[List.map_append,ZN,show Je c k=j from by unfold Je;omega];exact hs⟩)
 refine A7 12 1 [0] [[oF],[o0]] [BF ((k:Int)<(c.Am.xs.length:Int))] [(1,pt z),(AY z),(Ba n2),(102,.func (.func 77) #[] #[pt n2])] rfl ⟨bf,Ag⟩ ?_
 refine l_call [] [] 77 #[i6 0,pt n2] (some 103) Ag ?_
 intro w104 hw104
 refine BP (args:=[i6 0,pt n2]) 10 ⟨w,n25,(G6 n2 c aP i cP csG k aC cC z w)⟩ Tryd.func77 rfl (by kernel_rfl) (by kernel_rfl) hw104 ?_
 refine A7 17 0 [] [[o0],[(a1 3),o0],[(a1 3),o0,(ov (i6 (Dw c k))),(a1 3)],[o0,o0]] [Qb n2,Qb n2,Wr ((Dw c k:Int)+0) (Dw c k),Qb n2] [(3,i6 (Dw c k))] rfl ⟨rfl,rfl,CU,rfl,Ag⟩ ?_
 refine AX [] [] (i6 (Dw c k)) Ag ?_
 intro w105 hw105
 refine⟨_,_,rfl,hw105, ?_⟩
 refine BQ 0 3 [] [[(ov (i6 ((Dw c k)+16))),(ov (i6 (((Dw c k)+16) - 1))),(ov (i6 ((((Dw c k)+16) - 1) / 16)))]] [Wr ((Dw c k:Int)+16) ((Dw c k)+16),Wr (((Dw c k)+16:Int) - 1) (((Dw c k)+16) - 1),Wr (Int.tdiv (((Dw c k)+16) - 1) 16) ((((Dw c k)+16) - 1) / 16)] [(1,pt z),(AY z),(Ba n2),(106,i6 ((((Dw c k)+16) - 1) / 16))] rfl ⟨CU,CU,congrArg (Value.int .i64) (SI (by omega) (by omega) (by omega)),Ag⟩ ?_
 refine l_call [] [] 38 #[i6 ((((Dw c k)+16) - 1) / 16)] (some 107) Ag ?_
 intro w106 hw106
 refine BP (args:=[i6 ((((Dw c k)+16) - 1) / 16)]) 4 ⟨w,n25,(G6 n2 c aP i cP csG k aC cC z w)⟩ Tryd.func38 rfl (by kernel_rfl) (by kernel_rfl) hw106 ?_
 refine q_c 9 0 [] [[o0,o0],[o0,o0]] [] [(2,.func (.func 77) #[] #[pt n25])] ⟨w,n25+1,[(Ak w),(BL c z),(BM z),(Ea n2 c k),(DL n2 c aP i cP csG aC cC),(CS c aP i cP z),(CB csG z),(CG csG aC cC z),(bk n25 #[i6 ((((Dw c k)+16) - 1) / 16)] 3)]⟩ rfl Ag ?_
 refine AX [] [] (.func (.func 77) #[] #[pt n25]) Ag ?_
 intro w107 hw107
 refine⟨_,_,rfl,hw107, ?_⟩
 refine BQ 8 0 [] [[o0],[o0,(a1 1),o0,o0]] [Qb z] [(AY z),(Ba n2),(Ew n25),(JB c),(Ep c),(111,i6 0)] rfl ⟨rfl,Ag⟩ ?_
 refine YA z 3 1 (fun x:Int=>[i6 x]) ?_
 refine DW (fun m a w'=>∃ (n109:Nat) (p:Nat) (psG:List AZ) (aP2:Option Addr) (cP2:Nat),m=c.Aa.xs.length - p∧n25+1≤n109∧(p≤c.Aa.xs.length)∧(psG.length=c.Aa.xs.length)∧(∀ q,p≤q→q<c.Aa.xs.length→gd psG q=VC c q)∧(∀ q,q<p→∃ a cp,gd psG q=H7 c q ⟨a,cp,Fa c q (Jq (gd c.Aa.xs q))⟩)∧St 148 [(AY z),(Ba n2),(Ew n25),(JB c),(Ep c),(111,Ac p)] [] ⟨w,n109,(Lm n2 c csG k psG cP2 aC cC aP2 z n25 p w)⟩ a w') (c.Aa.xs.length - 0) ?_ ?_
 ·intro a w' hs;exact⟨(n25+1),0,(Gp c i),aP,cP,rfl,Nat.le_refl _,Nat.zero_le _,(by rw[RS];omega),(fun q _ hq=>SL (show q<i by omega)),fun q hq=>absurd hq (Nat.not_lt_zero q),by(try dsimp only[GI,DL,Fv,ML,BM,Gh,Gv,KG,Ea,Dx,BL,G8,CS,Gw,Lr,CG,CB,Cf,JB,EJ,Gu,Ew,BI,GR,D5,Ep,Et,BX,Ba,AY,E8,CQ,Lm,G6,Gx]at hs ⊢);rw[show EE c 0=(((Dw c k)+16) - 1) / 16 from by rw[WX,show k=c.Am.xs.length by omega]];exact hs⟩
 rintro m a w' ⟨n109,p,psG,aP2,cP2,rfl,hn108,hkp,hpl,hp1,hp2,hs⟩
 refine(?_:G Tryd.prog 148 [(AY z),(Ba n2),(Ew n25),(JB c),(Ep c),(111,Ac p)] [] ⟨w,n109,(Lm n2 c csG k psG cP2 aC cC aP2 z n25 p w)⟩ _ _ _) a w' hs
 clear hs a w'
 have htb:=RY hfine p (by omega)
 refine DC ?_
 by_cases h110:(p:Int)<(c.Aa.xs.length:Int)
 ·refine A7 10 0 [1] [[oT]] [BT ((p:Int)<(c.Aa.xs.length:Int))] [(AY z),(Ba n2),(Ew n25),(JB c),(Ep c),(111,Ac p),(112,.bool true)] rfl ⟨bt,Ag⟩ ?_
  obtain⟨b111,o112,ha113,hF115,hc114⟩:=(hc.Aa).1.all (show 0<c.Aa.xs.length by omega)
  replace ha113:c.Aa.a=some ⟨b111,o112,none⟩:=ha113
  refine IM [(AY z),(Ba n2),(Ew n25),(Fg c b111 o112),(Ep c),(111,Ac p),(112,.bool true)] (by(try dsimp only[GI,DL,Fv,ML,BM,Gh,Gv,KG,Ea,Dx,BL,G8,CS,Gw,Lr,CG,CB,Fg,Cf,JB,EJ,Gu,Ew,BI,GR,D5,Ep,Et,BX,Ba,AY,E8,CQ,Lm,G6,Gx]);simp only[ha113]) ?_
  have hc116:=hc114 p (show p<c.Aa.xs.length by omega)
  have he117:=(hc.Aa).2 p (show p<c.Aa.xs.length by omega)
  obtain⟨y118,hy118⟩:∃ y_,y_=gd c.Aa.xs p:=⟨_,rfl⟩
  rw[←hy118]at he117 hc116
  have htn:=Uo y118
  refine q_c 4 0 [] [[o0,(oi p),(ol 0 (Ar.arr y118)),o0,o0,(an 8 10)]] [Ed p,p<c.Aa.xs.length,Dt,Ie w b111 (o112+p*8) (Ar.arr y118),Qb n109,Qb n109,Qb n109,Qb n109,Qb n109,Qb n109,Qb n109,Qb n109] [(AY z),(Ba n2),(Ew n25),(Fg c b111 o112),(Ep c),(111,Ac p),(15,pt n109),(14,Ac p)] ⟨w,n109+1,[(Ak w),(BL c z),(BM z),(Ea n2 c k),(ML n2 c csG psG cP2 aC cC aP2),(Lr psG cP2 aP2 z),(CB csG z),(CG csG aC cC z),(KG c n25 p),(G8 psG z p),(Hz n109 y118)]⟩ rfl ⟨rfl,(by omega),rfl,EL hc116,rfl,rfl,rfl,rfl,rfl,rfl,rfl,rfl,Ag⟩ ?_
  refine I4 (base:=z) (e:=70) (sz:=5) (cells:=AZ.cells) (a:=aP2) (n:=psG.length) (cap:=cP2) (xs:=psG) 5 (by omega) (fun b119 hg120 hb121 => ?_)
  subst hg120
  refine DN 7 [0,1,2,3,4,5,6,7,9,10] [(Ak w),(BL c z),(BM z),(Ea n2 c k),(IZ n2 c csG b119 psG cP2 aC cC),(CP z 70 5 AZ.cells (.slice (some ⟨b119,0,none⟩) psG.length cP2) psG),(CB csG z),(CG csG aC cC z),(G8 psG z p),(Hz n109 y118)] rfl rfl ?_
  refine Dc [(0,o0),(1,(a1 4)),(2,o0),(3,o0)] [2,5,13,109,110,111,15,14,117,118,119] [Qb (n2+1)] (Dj 4 4) [(AY z),(Ba n2),(Ew n25),(Fg c b111 o112),(Ep c),(111,Ac p),(15,pt n109),(14,Ac p),(117,.slice (some ⟨b119,0,none⟩) psG.length cP2),(118,Ac p),(119,.func (.func 77) #[] #[pt n25])] ⟨rfl,Ag⟩ ?_
  refine Bo 4 ?_
  refine G7 [] [] 77 #[i6 1,pt n25] (some 120) (by as_aux_lemma=>kernel_rfl) rfl rfl Ag ?_
  intro w122 hw122
  refine BP (args:=[i6 1,pt n25]) 10 ⟨w,n109+1,[(Ak w),(BL c z),(BM z),(Ea n2 c k),(IZ n2 c csG b119 psG cP2 aC cC),(CP z 70 5 AZ.cells (.slice (some ⟨b119,0,none⟩) psG.length cP2) psG),(CB csG z),(CG csG aC cC z),(KG c n25 p),(G8 psG z p),(Hz n109 y118)]⟩ Tryd.func77 rfl (by kernel_rfl) (by kernel_rfl) hw122 ?_
  refine q_c 17 0 [] [[o0],[(a1 8),o0],[(a1 8),o0,(ov (i6 ((EE c p)+1))),(a1 8)],[o0,o0]] [Qb n25,Qb n25,Wr ((EE c p:Int)+1) ((EE c p)+1),Qb n25] [(3,i6 (EE c p))] ⟨w,n109+1,[(Ak w),(BL c z),(BM z),(Ea n2 c k),(IZ n2 c csG b119 psG cP2 aC cC),(CP z 70 5 AZ.cells (.slice (some ⟨b119,0,none⟩) psG.length cP2) psG),(CB csG z),(CG csG aC cC z),(bk n25 #[i6 ((EE c p)+1)] 3),(G8 psG z p),(Hz n109 y118)]⟩ rfl ⟨rfl,rfl,CU,rfl,Ag⟩ ?_
  refine AX [] [] (i6 (EE c p)) Ag ?_
  intro w123 hw123
  have hs124:=hw123
  refine⟨_,_,rfl,hs124,.inr (fun c hc=>hs124.all c (by first | exact hc | exact DI (is:=[0,1,2,3,4,5,6,7,9,10]) rfl c hc)), ?_⟩
  refine CZ [2,5,13,109,110,111,15,14,117,118,120] [(AY z),(Ba n2),(Ew n25),(Fg c b111 o112),(Ep c),(111,Ac p),(15,pt n109),(14,Ac p),(117,.slice (some ⟨b119,0,none⟩) psG.length cP2),(118,Ac p),(120,i6 (EE c p))] ?_
  refine Dc [(5,(oi p)),(6,o0)] [2,5,13,109,110,111,15,14,120,122] [Ed p,p<psG.length,Dt] (Dj 7 1) [(AY z),(Ba n2),(Ew n25),(Fg c b111 o112),(Ep c),(111,Ac p),(15,pt n109),(14,Ac p),(120,i6 (EE c p)),(122,.pointer (some ⟨b119,0+Ih 5 p+3,none⟩))] ⟨rfl,(by omega),rfl,Ag⟩ ?_
  refine Bo 7 ?_
  refine Wp 5 p 3 psG (⟨D7 c p,D7 c p+2,D7 c p+2+17,EE c p,(⟨none,0,[]⟩:Sl Int)⟩:AZ) AZ.cells z 70 5 b119 psG.length cP2 (i6 (EE c p)) none [] (by first | omega | (rw[List.length_set];omega)) (by first | (rw[hp1 p (Nat.le_refl _) (by omega)];rfl) | (rw[Ou (by omega)];rfl)) (.inl rfl) ?_
  refine CZ [2,5,13,109,110,111,15,14] [(AY z),(Ba n2),(Ew n25),(Fg c b111 o112),(Ep c),(111,Ac p),(15,pt n109),(14,Ac p)] ?_
  refine D8 8 [0,1,2,3,4,5,6,7,8,9,10] [(Ak w),(BL c z),(BM z),(Ea n2 c k),(IZ n2 c csG b119 psG cP2 aC cC),(CP z 70 5 AZ.cells (.slice (some ⟨b119,0,none⟩) psG.length cP2) (psG.set p (⟨D7 c p,D7 c p+2,D7 c p+2+17,EE c p,(⟨none,0,[]⟩:Sl Int)⟩:AZ))),(CB csG z),(CG csG aC cC z),(bk n25 #[i6 ((EE c p)+1)] 3),(G8 psG z p),(Hz n109 y118)] rfl rfl ?_
  refine CV ?_
  refine Ns 3 1 [] [[(an 8 10)]] [Qb n109,Qb n109,Qb n109,Qb n109,Qb n109,Qb n109,Qb n109,Qb n109] [(AY z),(Ba n2),(Ew n25),(Fg c b111 o112),(Ep c),(111,Ac p),(14,Ac p),(123,.agg (Ar.arr y118))] rfl ⟨rfl,rfl,rfl,rfl,rfl,rfl,rfl,rfl,Ag⟩ ?_
  refine Bz 42 #[.agg (Ar.arr y118)] (some 124) (i6 ((Jq y118:Nat):Int)) (fun w125 hw125=>Xg w125 y118 (he117.ext (hw125.ext rfl) (fun _ h=>h)) (regs_ok (by rw[hy118];exact hfine.parts p (by omega)))) (fun n126 (hn127:n109+1≤n126) => ?_)
  refine BQ 3 0 [] [[o0]] [] [(AY z),(Ba n2),(Ew n25),(Fg c b111 o112),(Ep c),(111,Ac p),(14,Ac p),(Hm y118),(125,i6 0)] rfl Ag ?_
  refine Nb z 3 1 (fun x:Int=>[i6 x]) ?_
  refine DZ [2,5,13,14,109,110,111,124,125] [(AY z),(Ba n2),(Ew n25),(14,Ac p),(Fg c b111 o112),(Ep c),(111,Ac p),(Hm y118),(125,i6 0)] ?_
  refine DW (fun m a w'=>∃ (n129:Nat) (t:Nat) (aT:Option Addr) (cT:Nat),m=(Jq y118) - t∧n126≤n129∧(t≤(Jq y118))∧St 148 [(AY z),(Ba n2),(Ew n25),(14,Ac p),(Fg c b111 o112),(Ep c),(111,Ac p),(Hm y118),(125,Ac t)] [] ⟨w,n129,(ND n2 c csG k b119 psG cP2 aC cC z n25 p t n109 y118 aT cT w)⟩ a w') ((Jq y118) - 0) ?_ ?_
  ·intro a w' hs;exact⟨n126,0,none,0,rfl,Nat.le_refl _,Nat.zero_le _,by(try dsimp only[GI,IZ,DL,Fv,ML,BM,Gh,Nv,Gv,Hz,KG,Ea,Dx,BL,JC,NY,G8,CS,Gw,Lr,CG,CB,Fg,Cf,JB,EJ,Gu,Ew,BI,GR,D5,Ep,Et,BX,Hm,Ba,AY,E8,CQ,ND,Lm,G6,Gx]at hs ⊢);rw[show EE c p+1+((0:Nat):Int)=EE c p+1 from by omega];exact hs⟩
  rintro m a w' ⟨n129,t,aT,cT,rfl,hn128,hkt,hs⟩
  refine(?_:G Tryd.prog 148 [(AY z),(Ba n2),(Ew n25),(14,Ac p),(Fg c b111 o112),(Ep c),(111,Ac p),(Hm y118),(125,Ac t)] [] ⟨w,n129,(ND n2 c csG k b119 psG cP2 aC cC z n25 p t n109 y118 aT cT w)⟩ _ _ _) a w' hs
  clear hs a w'
  have htl:(Fa c p t).length=t:=RF
  refine DC ?_
  by_cases h130:(t:Int)<((Jq y118:Nat):Int)
  ·refine A7 9 0 [1] [[oT]] [BT ((t:Int)<((Jq y118:Nat):Int))] [(AY z),(Ba n2),(Ew n25),(14,Ac p),(Fg c b111 o112),(Ep c),(111,Ac p),(Hm y118),(125,Ac t),(126,.bool true)] rfl ⟨bt,Ag⟩ ?_
   refine DN 15 [0,1,2,3,4,5,6,7,9,10] [(Ak w),(BL c z),(BM z),(Ea n2 c k),(IZ n2 c csG b119 psG cP2 aC cC),(JC c b119 psG cP2 z p t aT cT),(CB csG z),(CG csG aC cC z),(G8 psG z p),(Hz n109 y118)] rfl rfl ?_
   refine Dc [(0,o0),(1,(a1 4)),(2,o0),(3,o0),(4,(a1 4)),(5,o0),(6,(oi p)),(7,o0),(8,(oa [.via 5 (.slice aT ((Fa c p t).length) cT)])),(9,o0)] [2,5,13,14,109,110,111,124,125,128,129,135,136] [Qb (n2+1),Qb (n2+1),Ed p,p<psG.length,Dt,∀ w',Ch.holds (JC c b119 psG cP2 z p t aT cT) w'→w'.cell? ⟨b119,0+Ih 5 p+4,none⟩=some (.slice aT ((Fa c p t).length) cT)] (Dj 10 6) [(AY z),(Ba n2),(Ew n25),(14,Ac p),(Fg c b111 o112),(Ep c),(111,Ac p),(Hm y118),(125,Ac t),(128,.slice (some ⟨b119,0,none⟩) psG.length cP2),(129,Ac p),(135,.slice aT ((Fa c p t).length) cT),(136,.func (.func 77) #[] #[pt n25])] ⟨rfl,rfl,rfl,(by omega),rfl,FH (sz:=5) (j:=p) (k:=4) (fun _=>rfl) (by first | omega | (rw[List.length_set];omega)) (by rw[Ou (by omega)];rfl),Ag⟩ ?_
   refine Bo 10 ?_
   refine G7 [] [] 77 #[i6 1,pt n25] (some 137) (by as_aux_lemma=>kernel_rfl) rfl rfl Ag ?_
   intro w131 hw131
   refine BP (args:=[i6 1,pt n25]) 10 ⟨w,n129,(ND n2 c csG k b119 psG cP2 aC cC z n25 p t n109 y118 aT cT w)⟩ Tryd.func77 rfl (by kernel_rfl) (by kernel_rfl) hw131 ?_
   refine q_c 17 0 [] [[o0],[(a1 8),o0],[(a1 8),o0,(ov (i6 ((EE c p+1+(t:Int))+1))),(a1 8)],[o0,o0]] [Qb n25,Qb n25,Wr ((EE c p+1+(t:Int):Int)+1) ((EE c p+1+(t:Int))+1),Qb n25] [(3,i6 (EE c p+1+(t:Int)))] ⟨w,n129,[(Ak w),(BL c z),(BM z),(Ea n2 c k),(IZ n2 c csG b119 psG cP2 aC cC),(JC c b119 psG cP2 z p t aT cT),(CB csG z),(CG csG aC cC z),(O7 c n25 p t),(G8 psG z p),(Hz n109 y118),(NY c z p t aT cT)]⟩ rfl ⟨rfl,rfl,CU,rfl,Ag⟩ ?_
   refine AX [] [] (i6 (EE c p+1+(t:Int))) Ag ?_
   intro w132 hw132
   have hs133:=hw132
   refine⟨_,_,rfl,hs133,.inr (fun c hc=>hs133.all c (by first | exact hc | exact DI (is:=[0,1,2,3,4,5,6,7,9,10]) rfl c hc)), ?_⟩
   refine CZ [2,5,13,14,109,110,111,124,125,128,129,135,137] [(AY z),(Ba n2),(Ew n25),(14,Ac p),(Fg c b111 o112),(Ep c),(111,Ac p),(Hm y118),(125,Ac t),(128,.slice (some ⟨b119,0,none⟩) psG.length cP2),(129,Ac p),(135,.slice aT ((Fa c p t).length) cT),(137,i6 (EE c p+1+(t:Int)))] ?_
   refine Bo 11 ?_
   refine Bq o0 [2,5,13,14,109,110,111,124,125,128,129,135,138] [] [(AY z),(Ba n2),(Ew n25),(14,Ac p),(Fg c b111 o112),(Ep c),(111,Ac p),(Hm y118),(125,Ac t),(128,.slice (some ⟨b119,0,none⟩) psG.length cP2),(129,Ac p),(135,.slice aT ((Fa c p t).length) cT),(138,.slice (some ⟨n129,0,none⟩) 1 1)] ⟨w,n129+1,[(Ak w),(BL c z),(BM z),(Ea n2 c k),(IZ n2 c csG b119 psG cP2 aC cC),(JC c b119 psG cP2 z p t aT cT),(CB csG z),(CG csG aC cC z),(O7 c n25 p t),(G8 psG z p),(Hz n109 y118),(NY c z p t aT cT),(bk n129 #[i6 (EE c p+1+(t:Int))] 3)]⟩ [0,1,2,3,4,5,6,7,9,10] Ag (.inr rfl) ?_
   refine Bo 12 ?_
   refine OD z 11 12 (Fa c p t) [EE c p+1+(t:Int)] (fun x:Int=>[i6 x]) 3 1 8 (.slice aT ((Fa c p t).length) cT) n129 1 1 #[i6 (EE c p+1+(t:Int))] 3 (0,0) true (some 139) [0,1,2,3,4,5,6,7,9,10] (by simp only[List.length_cons,List.length_nil];omega) (show z≤n129+1 by omega) (.inr ⟨rfl,rfl⟩) (fun ax134 cp135 n136 (hn137:n129+1≤n136) => ?_)
   refine CZ [2,5,13,14,109,110,111,124,125,128,129,139] [(AY z),(Ba n2),(Ew n25),(14,Ac p),(Fg c b111 o112),(Ep c),(111,Ac p),(Hm y118),(125,Ac t),(128,.slice (some ⟨b119,0,none⟩) psG.length cP2),(129,Ac p),(139,.slice ax134 (((Fa c p t)++[EE c p+1+(t:Int)]).length) cp135)] ?_
   refine Dc [(13,(oi p)),(14,o0)] [2,5,13,14,109,110,111,124,125,139,141] [Ed p,p<psG.length,Dt] (Dj 15 1) [(AY z),(Ba n2),(Ew n25),(14,Ac p),(Fg c b111 o112),(Ep c),(111,Ac p),(Hm y118),(125,Ac t),(139,.slice ax134 (((Fa c p t)++[EE c p+1+(t:Int)]).length) cp135),(141,.pointer (some ⟨b119,0+Ih 5 p+4,none⟩))] ⟨rfl,(by omega),rfl,Ag⟩ ?_
   refine Bo 15 ?_
   refine Wp 5 p 4 (psG.set p (⟨D7 c p,D7 c p+2,D7 c p+2+17,EE c p,(⟨aT,cT,Fa c p t⟩:Sl Int)⟩:AZ)) (⟨D7 c p,D7 c p+2,D7 c p+2+17,EE c p,(⟨ax134,cp135,((Fa c p t)++[EE c p+1+(t:Int)])⟩:Sl Int)⟩:AZ) AZ.cells z 70 5 b119 psG.length cP2 (.slice ax134 (((Fa c p t)++[EE c p+1+(t:Int)]).length) cp135) none [] (by first | omega | (rw[List.length_set];omega)) (by first | (rw[hp1 p (Nat.le_refl _) (by omega)];rfl) | (rw[Ou (by omega)];rfl)) (.inl rfl) ?_
   refine CZ [2,5,13,14,109,110,111,124,125] [(AY z),(Ba n2),(Ew n25),(14,Ac p),(Fg c b111 o112),(Ep c),(111,Ac p),(Hm y118),(125,Ac t)] ?_
   refine D8 16 [0,1,2,3,4,5,6,7,8,9,10,11,12] [(Ak w),(BL c z),(BM z),(Ea n2 c k),(IZ n2 c csG b119 psG cP2 aC cC),(QY c b119 psG cP2 z p t aT cT ax134 cp135),(CB csG z),(CG csG aC cC z),(O7 c n25 p t),(G8 psG z p),(Hz n109 y118),(CP z 3 1 (fun x:Int=>[i6 x]) (.slice ax134 (((Fa c p t)++[EE c p+1+(t:Int)]).length) cp135) ((Fa c p t)++[EE c p+1+(t:Int)])),(bk n129 #[i6 (EE c p+1+(t:Int))] 3)] rfl rfl ?_
   refine CV ?_
   refine Ns 4 0 [] [[(ov (i6 ((t+1:Nat):Int))),o0]] [Wr ((t:Int)+1) (((t+1:Nat):Int))] [(AY z),(Ba n2),(Ew n25),(14,Ac p),(Fg c b111 o112),(Ep c),(111,Ac p),(Hm y118),(125,i6 ((t+1:Nat):Int))] rfl ⟨CU,Ag⟩ ?_
   refine Cc [0,1,2,3,4,5,6,7,8,9,10,11] [(Ak w),(BL c z),(BM z),(Ea n2 c k),(IZ n2 c csG b119 psG cP2 aC cC),(QY c b119 psG cP2 z p t aT cT ax134 cp135),(CB csG z),(CG csG aC cC z),(O7 c n25 p t),(G8 psG z p),(Hz n109 y118),(CP z 3 1 (fun x:Int=>[i6 x]) (.slice ax134 (((Fa c p t)++[EE c p+1+(t:Int)]).length) cp135) ((Fa c p t)++[EE c p+1+(t:Int)]))] rfl rfl ?_
   refine BR [2,5,13,14,109,110,111,124,125] [(AY z),(Ba n2),(Ew n25),(14,Ac p),(Fg c b111 o112),(Ep c),(111,Ac p),(Hm y118),(125,i6 ((t+1:Nat):Int))] ?_
   refine Cj (fun a w' hs=>⟨(Jq y118) - (t+1),by omega,n136,(t+1),ax134,cp135,rfl,by omega,by omega,by(try dsimp only[GI,IZ,DL,Fv,ML,BM,Gh,O7,Nv,Gv,Hz,KG,Ea,Dx,BL,QY,JC,NY,G8,CS,Gw,Lr,CG,CB,Fg,Cf,JB,EJ,Gu,Ew,BI,GR,D5,Ep,Et,BX,Hm,Ba,AY,E8,CQ,ND,Lm,G6,Gx]at hs ⊢);simp only[List.set_set]at hs;rw[show EE c p+1+((t+1:Nat):Int)=EE c p+1+(t:Int)+1 from by omega,X5];exact hs⟩)
  refine A7 13 0 [0] [[oF],[(ov (i6 ((p+1:Nat):Int))),o0]] [BF ((t:Int)<((Jq y118:Nat):Int)),Wr ((p:Int)+1) (((p+1:Nat):Int))] [(AY z),(Ba n2),(Ew n25),(Fg c b111 o112),(Ep c),(111,i6 ((p+1:Nat):Int))] rfl ⟨bf,CU,Ag⟩ ?_
  refine e_fam 9 11 [0,1,2,3,4,5,6,7,8,10] [(Ak w),(BL c z),(BM z),(Ea n2 c k),(IZ n2 c csG b119 psG cP2 aC cC),(JC c b119 psG cP2 z p t aT cT),(CB csG z),(CG csG aC cC z),(Nv c n25 p t),(Hz n109 y118)] ?_
  refine Cc [0,1,2,3,4,5,6,7,8,10] [(Ak w),(BL c z),(BM z),(Ea n2 c k),(IZ n2 c csG b119 psG cP2 aC cC),(JC c b119 psG cP2 z p t aT cT),(CB csG z),(CG csG aC cC z),(Nv c n25 p t),(LD z 3 1 (fun x:Int=>[i6 x]) ((psG.take p).map AZ.Tables++[⟨aT,cT,(Fa c p t)⟩]))] rfl rfl ?_
  refine Fj [2,5,13,109,110,111] [(AY z),(Ba n2),(Ew n25),(JB c),(Ep c),(111,i6 ((p+1:Nat):Int))] (by(try dsimp only[GI,IZ,DL,Fv,ML,BM,Gh,O7,Nv,Gv,Hz,KG,Ea,Dx,BL,QY,JC,NY,G8,CS,Gw,Lr,CG,CB,Fg,Cf,JB,EJ,Gu,Ew,BI,GR,D5,Ep,Et,BX,Hm,Ba,AY,E8,CQ,ND,Lm,G6,Gx]);simp only[ha113];rfl) ?_
  refine Cj (fun a w' hs=>⟨c.Aa.xs.length - (p+1),by omega,n129,(p+1),(psG.set p (⟨D7 c p,D7 c p+2,D7 c p+2+17,EE c p,(⟨aT,cT,Fa c p t⟩:Sl Int)⟩:AZ)),(some ⟨b119,0,none⟩),cP2,rfl,by omega,by omega,by rw[List.length_set];exact hpl,fun q h1 h2=>by rw[Q7 (by omega) (by omega)];exact hp1 q (by omega) h2,fun q hq=>if e:q=p then(by rw[e];exact⟨aT,cT,by rw[Ou (by omega),←hy118,show Jq y118=t by omega];rfl⟩)else(by rw[Q7 (fun e2=>e e2.symm) (by omega)];exact hp2 q (by omega)),by(try dsimp only[GI,IZ,DL,Fv,ML,BM,Gh,O7,Nv,Gv,Hz,KG,Ea,Dx,BL,QY,JC,NY,G8,CS,Gw,Lr,CG,CB,Fg,Cf,JB,EJ,Gu,Ew,BI,GR,D5,Ep,Et,BX,Hm,Ba,AY,E8,CQ,ND,Lm,G6,Gx]at hs ⊢);rw[Wy (by omega),List.map_append,List.length_set,show EE c (p+1)=EE c p+1+(t:Int)from by rw[Uw,←hy118];omega];exact hs⟩)
 refine A7 12 1 [0] [[oF],[o0]] [BF ((p:Int)<(c.Aa.xs.length:Int))] [(AY z),(Ba n2),(144,.func (.func 77) #[] #[pt n25])] rfl ⟨bf,Ag⟩ ?_
 refine l_call [] [] 77 #[i6 0,pt n25] (some 145) Ag ?_
 intro w138 hw138
 refine BP (args:=[i6 0,pt n25]) 10 ⟨w,n109,(Lm n2 c csG k psG cP2 aC cC aP2 z n25 p w)⟩ Tryd.func77 rfl (by kernel_rfl) (by kernel_rfl) hw138 ?_
 refine A7 17 0 [] [[o0],[(a1 8),o0],[(a1 8),o0,(ov (i6 (EE c p))),(a1 8)],[o0,o0]] [Qb n25,Qb n25,Wr ((EE c p:Int)+0) (EE c p),Qb n25] [(3,i6 (EE c p))] rfl ⟨rfl,rfl,CU,rfl,Ag⟩ ?_
 refine AX [] [] (i6 (EE c p)) Ag ?_
 intro w139 hw139
 refine⟨_,_,rfl,hw139, ?_⟩
 refine FD 7 0 [] [[o0,(a1 4)],[(an 4 4),(an 4 2),o0]] [Qb (n2+1),Qb (n2+1),Qb (n2+1),Qb (n2+1),Qb (n2+1),Qb (z+1),Qb (z+1),Qb (z+1),Qb (z+1)] [(AY z),(3,i6 0)] ⟨w,n109,[(Ak w),(BL c z),(bk (z+1) #[i6 (c.Kernel*16),.slice aP2 psG.length cP2,.slice aC csG.length cC,i6 (EE c p)] 60),(Ea n2 c k),(bk (n2+1) #[i6 (c.Kernel*16),.slice aP2 psG.length cP2,.slice aC csG.length cC,i6 (EE c p)] 60),(Lr psG cP2 aP2 z),(CB csG z),(CG csG aC cC z),(KG c n25 p),(G8 psG z p)]⟩ rfl ⟨rfl,rfl,rfl,rfl,rfl,rfl,rfl,rfl,rfl,Ag⟩ ?_
 refine AX [.at 2,.at 2,.at 2,.at 2] [Qb (z+1),Qb (z+1),Qb (z+1),Qb (z+1)] (.tuple #[.agg #[i6 (c.Kernel*16),.slice aP2 psG.length cP2,.slice aC csG.length cC,i6 (EE c p)],i6 0]) ⟨rfl,rfl,rfl,rfl,Ag⟩ ?_
 intro w140 hw140
 have hL:WA c ⟨c.Kernel*16,⟨aP2,cP2,psG⟩,⟨aC,cC,csG⟩,EE c p⟩:=⟨rfl,by rw[show p=c.Aa.xs.length by omega],hpl,fun q hq=>hp2 q (by omega),by simp only;omega,fun q hq=>hcs q (by omega)⟩
 have hO:WG z w140 ⟨c.Kernel*16,⟨aP2,cP2,psG⟩,⟨aC,cC,csG⟩,EE c p⟩:=⟨w,by
  have h4:=hw140.pick [5,7,6,9] rfl rfl
  rw[hw140.size]
  unfold layS
  (try dsimp only[GI,IZ,DL,Fv,ML,BM,Gh,Nv,Gv,Hz,KG,Ea,Dx,BL,JC,NY,G8,CS,Gw,Lr,CG,CB,Fg,Cf,JB,EJ,Gu,Ew,BI,GR,D5,Ep,Et,BX,Hm,Ba,AY,E8,CQ,ND,Lm,G6,Gx]at h4)
  rw[List.take_of_length_le (by omega)]at h4
  exact h4⟩
 exact⟨_,rfl,hL,hz ▸ lay_ok hfine hL hO,hz ▸ hO,BC hw140⟩
def JK(c:Aj):Int:=if EG c=true then EE c c.Aa.xs.length - c.Kernel else 0
def errOf(c:Aj):Int:=if EG c=true then 0 else 150
theorem Yz(w:World)(c:Aj)(hc:Aj.ok Any w c):Calls Tryd.prog 100 #[.agg (Aj.arr c)] w fun e w'=>e = .returned (.tuple #[.int .i64 (JK c),.int .i64 (errOf c)])∧CJ (fun _=>False) w w':=by
 obtain⟨z,hz⟩:∃ z,z=w.heap.size:=⟨_,rfl⟩
 refine BP (args:=[.agg (Aj.arr c)]) 19 ⟨w,z,[(Ak w)]⟩ Tryd.func100 rfl (by kernel_rfl) (by kernel_rfl) (EQ hz) ?_
 refine DZ [0] [(0,.agg (Aj.arr c))] ?_
 refine q_c 6 1 [] [[o0,o0,o0],[(an 7 1)]] [Qb z,Qb z,Qb z,Qb z,Qb z,Qb z,Qb z] [(1,pt z),(7,.agg (Aj.arr c))] ⟨w,z+1,[(Ak w),(bk z (Aj.arr c) 26)]⟩ rfl ⟨rfl,rfl,rfl,rfl,rfl,rfl,rfl,Ag⟩ ?_
 refine l_call [] [] 18 #[.agg (Aj.arr c)] (some 8) Ag ?_
 intro w1 hw1
 by_cases hok2:EG c=true
 ·refine(Xr w1 c (hc.ext (hw1.ext rfl) (fun _ h=>h)) hok2).mono ?_
  rintro e w3 ⟨lw3,rfl,hIw3,hLw3,hOw3,hkw3⟩
  have hfw3:=TG hok2;have hknw3:=hfw3.kn;have hEw3:=hIw3.fin;have hEbw3:=RY hfw3 _ (Nat.le_refl _);have hpnw3:=hfw3.pn
  rw[hw1.size]at hLw3 hOw3
  have hnw3:z+1≤w3.heap.size:=EO hw1 hkw3
  refine⟨_,_,rfl,hw1.RV hkw3, ?_⟩
  refine FD 15 0 [0] [[o0,o0,o0,o0,(an 4 3),o0],[o0,o0],[o0,(a1 3),o0,(a1 1),(ov (i6 (lw3.End - c.Kernel))),o0,o0]] [Qb w3.heap.size,Qb w3.heap.size,Qb w3.heap.size,Qb w3.heap.size,Qb w3.heap.size,Qb z,Wr ((lw3.End:Int) - c.Kernel) (lw3.End - c.Kernel)] [(2,i6 (lw3.End - c.Kernel)),(3,i6 0)] ⟨w,w3.heap.size+1,[(Ak w),(bk z (Aj.arr c) 26),(mid (z+1) w3),(.blk w3.heap.size (.cells (FN.arr lw3) 60 (0,0)) true)]⟩ rfl ⟨rfl,rfl,rfl,rfl,rfl,rfl,CU,Ag⟩ ?_
  refine AX [] [] (.tuple #[i6 (lw3.End - c.Kernel),i6 0]) Ag ?_
  intro w4 hw4
  refine⟨?_,BC hw4⟩
  unfold JK errOf;rw[if_pos hok2,if_pos hok2];rw[←hEw3]
 refine(of_no w1 c (hc.ext (hw1.ext rfl) (fun _ h=>h)) (Bool.eq_false_iff.2 hok2)).mono ?_
 rintro e w5 ⟨rfl,hkw5⟩
 have hnw5:z+1≤w5.heap.size:=EO hw1 hkw5
 refine⟨_,_,rfl,hw1.keeps hkw5, ?_⟩
 refine FD 13 0 [1] [[o0,o0,o0,o0,(an 4 2),o0],[o0,o0],[o0,o0,o0]] [Qb w5.heap.size,Qb w5.heap.size,Qb w5.heap.size,Qb w5.heap.size] [(2,i6 0),(3,i6 150)] ⟨w,w5.heap.size+1,[(Ak w),(bk z (Aj.arr c) 26),(.blk w5.heap.size (.cells #[i6 0,.slice none 0 0,.slice none 0 0,i6 0] 60 (0,0)) true)]⟩ rfl ⟨rfl,rfl,rfl,rfl,Ag⟩ ?_
 refine AX [] [] (.tuple #[i6 0,i6 150]) Ag ?_
 intro w6 hw6
 refine⟨?_,BC hw6⟩
 unfold JK errOf;rw[if_neg hok2,if_neg hok2]
end Go.Proofs.YtjdmhijaanmccaaDoor.Ly
namespace Go.Proofs.YtjdmhijaanmccaaDoor.Ad
open Go Go.Proofs.YtjdmhijaanmccaaDoor.Eng Go.Proofs.YtjdmhijaanmccaaDoor.Mem Go.Proofs.YtjdmhijaanmccaaDoor.Ly
set_option linter.unusedSimpArgs false
set_option linter.unusedVariables false
set_option maxRecDepth 100000
def Xi(c:Aj)(q n:Nat):Bool:=meet (Dk c q n).Frame (Dk c q n).BG c.Kernel c.Room
def Vo(c:Aj)(q:Nat):Bool:=(List.range (ES c q).Ah.xs.length).any (Xi c q)
def Gy(c:Aj):Bool:=win c.Kernel 0 (c.Frames - 1)&&win c.Room 1 (c.Frames - c.Kernel) && !(List.range c.Aa.xs.length).any (Vo c)&&(decide (errOf c=0)&&decide (JK c≤c.Room))
section
variable (n12:Nat)(y21:Ar)(z:Nat)(c:Aj)(b14 o15:Nat)(b25 o26:Nat)
abbrev OY:=bk n12 (Ar.arr y21) 52
abbrev KH:=bk z (Aj.arr c) 26
abbrev J7:CO:=(28,.slice (some ⟨b14,o15,none⟩) c.Aa.xs.length c.Aa.cap)
abbrev Qq:CO:=(35,.slice (some ⟨b25,o26,none⟩) y21.Ah.xs.length y21.Ah.cap)
abbrev Oi:CO:=(28,.slice c.Aa.a c.Aa.xs.length c.Aa.cap)
abbrev Pj:CO:=(35,.slice y21.Ah.a y21.Ah.xs.length y21.Ah.cap)
abbrev Ia:=(29,Ac c.Aa.xs.length)
abbrev KZ:=(36,Ac y21.Ah.xs.length)
end
theorem Xn(w:World)(hL:Gz w)(c:Aj)(hc:Aj.ok Any w c)(hFr:1≤c.Frames∧c.Frames≤1024)(hpf:∀ q,q<c.Aa.xs.length→DK c q=BU):Calls Tryd.prog 75 #[.agg (Aj.arr c)] w fun e w'=>e = .returned (.bool (Gy c))∧CJ (fun _=>False) w w':=by
 obtain⟨z,hz⟩:∃ z,z=w.heap.size:=⟨_,rfl⟩
 refine BP (args:=[.agg (Aj.arr c)]) 65 ⟨w,z,[(Ak w)]⟩ Tryd.func75 rfl (by kernel_rfl) (by kernel_rfl) (EQ hz) ?_
 have hpl:=hc.Aa.1.len;have hkk:(-9223372036854775808:Int)≤c.Kernel∧c.Kernel≤9223372036854775807:=hc.Kernel;have hrr:(-9223372036854775808:Int)≤c.Room∧c.Room≤9223372036854775807:=hc.Room
 refine DZ [0] [(0,.agg (Aj.arr c))] ?_
 refine q_c 7 5 [] [[o0,o0],[o0,(a1 1),o0,(a1 1),(ov (i6 (c.Frames - 1)))]] [Qb z,Qb z,Wr ((c.Frames:Int) - 1) (c.Frames - 1)] [(1,pt z),(10,i6 c.Kernel),(13,i6 (c.Frames - 1))] ⟨w,z+1,[(Ak w),(KH z c)]⟩ rfl ⟨rfl,rfl,CU,Ag⟩ ?_
 refine Bz 63 #[i6 c.Kernel,i6 0,i6 (c.Frames - 1)] (some 14) (.bool (win c.Kernel 0 (c.Frames - 1))) (fun w1 hw1=>Bl w1 c.Kernel 0 (c.Frames - 1)) (fun n2 (hn3:z+1≤n2) => ?_)
 refine Dz [1,14] [(1,pt z),(14,.bool (win c.Kernel 0 (c.Frames - 1)))] ?_
 by_cases h4:(win c.Kernel 0 (c.Frames - 1))=true
 ·have hd5:=Es h4
  refine BQ 0 9 [] [[(ov (.bool false)),o0,o0,(a1 1),o0,(a1 1),o0,(a1 1),(ov (i6 (c.Frames - c.Kernel)))]] [Value.bool (!(win c.Kernel 0 (c.Frames - 1)))=Value.bool false,Qb z,Qb z,Qb z,Wr ((c.Frames:Int) - c.Kernel) (c.Frames - c.Kernel)] [(1,pt z),(16,.bool false),(18,i6 c.Room),(23,i6 (c.Frames - c.Kernel))] rfl ⟨by simp[h4],rfl,rfl,rfl,CU,Ag⟩ ?_
  refine Bz 63 #[i6 c.Room,i6 1,i6 (c.Frames - c.Kernel)] (some 24) (.bool (win c.Room 1 (c.Frames - c.Kernel))) (fun w6 hw6=>Bl w6 c.Room 1 (c.Frames - c.Kernel)) (fun n7 (hn8:n2≤n7) => ?_)
  refine Dz [1,16,24] [(1,pt z),(16,.bool false),(24,.bool (win c.Room 1 (c.Frames - c.Kernel)))] ?_
  by_cases h9:(win c.Room 1 (c.Frames - c.Kernel))=true
  ·have hd10:=Es h9
   refine BQ 11 0 [0] [[(ov (.bool false)),o0],[o0,(a1 1),o0,o0]] [Value.bool (!(win c.Room 1 (c.Frames - c.Kernel)))=Value.bool false,Qb z] [(1,pt z),(Oi c),(Ia c),(30,i6 0)] rfl ⟨by simp[h9],rfl,Ag⟩ ?_
   refine DW (fun m a w'=>∃ (n12:Nat) (q:Nat),m=c.Aa.xs.length - q∧n7≤n12∧(q≤c.Aa.xs.length)∧(∀ a,a<q→Vo c a=false)∧St 65 [(1,pt z),(Oi c),(Ia c),(30,Ac q)] [] ⟨w,n12,[(Ak w),(KH z c)]⟩ a w') (c.Aa.xs.length - 0) ?_ ?_
   ·intro a w' hs;exact⟨n7,0,rfl,Nat.le_refl _,Nat.zero_le _,fun i hi=>absurd hi (Nat.not_lt_zero i),hs⟩
   rintro m a w' ⟨n12,q,rfl,hn11,hkq,hg,hs⟩
   refine(?_:G Tryd.prog 65 [(1,pt z),(Oi c),(Ia c),(30,Ac q)] [] ⟨w,n12,[(Ak w),(KH z c)]⟩ _ _ _) a w' hs
   clear hs a w'
   refine DC ?_
   by_cases h13:(q:Int)<(c.Aa.xs.length:Int)
   ·refine A7 10 0 [1] [[oT]] [BT ((q:Int)<(c.Aa.xs.length:Int))] [(1,pt z),(Oi c),(Ia c),(30,Ac q),(31,.bool true)] rfl ⟨bt,Ag⟩ ?_
    obtain⟨b14,o15,ha16,hF18,hc17⟩:=(hc.Aa).1.all (show 0<c.Aa.xs.length by omega)
    replace ha16:c.Aa.a=some ⟨b14,o15,none⟩:=ha16
    refine IM [(1,pt z),(J7 c b14 o15),(Ia c),(30,Ac q),(31,.bool true)] (by(try dsimp only[KH,J7,Oi,Ia]);simp only[ha16]) ?_
    have hc19:=hc17 q (show q<c.Aa.xs.length by omega)
    have he20:=(hc.Aa).2 q (show q<c.Aa.xs.length by omega)
    obtain⟨y21,hy21⟩:∃ y_,y_=gd c.Aa.xs q:=⟨_,rfl⟩
    rw[←hy21]at he20 hc19
    have hyly21:=he20.Ah.1.len
    refine q_c 8 0 [] [[(oi q),(ol 0 (Ar.arr y21)),o0,(an 8 2)],[o0,(a1 2),o0,o0]] [Ed q,q<c.Aa.xs.length,Dt,Ie w b14 (o15+q*8) (Ar.arr y21),Qb n12,Qb n12,Qb n12,Qb n12,Qb n12,Qb n12,Qb n12,Qb n12,Qb n12] [(1,pt z),(J7 c b14 o15),(Ia c),(30,Ac q),(Pj y21),(KZ y21),(37,i6 0)] ⟨w,n12+1,[(Ak w),(KH z c),(OY n12 y21)]⟩ rfl ⟨rfl,(by omega),rfl,EL hc19,rfl,rfl,rfl,rfl,rfl,rfl,rfl,rfl,rfl,Ag⟩ ?_
    refine DW (fun m a w'=>∃ (n23:Nat) (n:Nat),m=y21.Ah.xs.length - n∧n12+1≤n23∧(n≤y21.Ah.xs.length)∧(∀ a,a<n→Xi c q a=false)∧St 65 [(1,pt z),(J7 c b14 o15),(Ia c),(30,Ac q),(Pj y21),(KZ y21),(37,Ac n)] [] ⟨w,n23,[(Ak w),(KH z c),(OY n12 y21)]⟩ a w') (y21.Ah.xs.length - 0) ?_ ?_
    ·intro a w' hs;exact⟨(n12+1),0,rfl,Nat.le_refl _,Nat.zero_le _,fun i hi=>absurd hi (Nat.not_lt_zero i),hs⟩
    rintro m a w' ⟨n23,n,rfl,hn22,hkn,hh,hs⟩
    refine(?_:G Tryd.prog 65 [(1,pt z),(J7 c b14 o15),(Ia c),(30,Ac q),(Pj y21),(KZ y21),(37,Ac n)] [] ⟨w,n23,[(Ak w),(KH z c),(OY n12 y21)]⟩ _ _ _) a w' hs
    clear hs a w'
    refine DC ?_
    by_cases h24:(n:Int)<(y21.Ah.xs.length:Int)
    ·refine A7 10 0 [1] [[oT]] [BT ((n:Int)<(y21.Ah.xs.length:Int))] [(1,pt z),(J7 c b14 o15),(Ia c),(30,Ac q),(Pj y21),(KZ y21),(37,Ac n),(38,.bool true)] rfl ⟨bt,Ag⟩ ?_
     obtain⟨b25,o26,ha27,hF29,hc28⟩:=(he20.Ah).1.all (show 0<y21.Ah.xs.length by omega)
     replace ha27:y21.Ah.a=some ⟨b25,o26,none⟩:=ha27
     refine IM [(1,pt z),(J7 c b14 o15),(Ia c),(30,Ac q),(Qq y21 b25 o26),(KZ y21),(37,Ac n),(38,.bool true)] (by(try dsimp only[OY,KH,J7,Qq,Oi,Pj,Ia,KZ]);simp only[ha27]) ?_
     have hc30:=hc28 n (show n<y21.Ah.xs.length by omega)
     have he31:=(he20.Ah).2 n (show n<y21.Ah.xs.length by omega)
     obtain⟨y32,hy32⟩:∃ y_,y_=gd y21.Ah.xs n:=⟨_,rfl⟩
     rw[←hy32]at he31 hc30
     refine q_c 5 8 [] [[(oi n),(ol 0 (BJ.arr y32)),o0,(an 4 3)],[o0,(a1 3),o0,(a1 3),o0,(a1 1),o0,(a1 1)]] [Ed n,n<y21.Ah.xs.length,Dt,Ie w b25 (o26+n*4) (BJ.arr y32),Qb n23,Qb n23,Qb n23,Qb n23,Qb n23,Qb n23,Qb z,Qb z] [(1,pt z),(J7 c b14 o15),(Ia c),(30,Ac q),(Qq y21 b25 o26),(KZ y21),(37,Ac n),(42,i6 y32.Frame),(44,i6 y32.BG),(46,i6 c.Kernel),(48,i6 c.Room)] ⟨w,n23+1,[(Ak w),(KH z c),(OY n12 y21),(bk n23 (BJ.arr y32) 103)]⟩ rfl ⟨rfl,(by omega),rfl,EL hc30,rfl,rfl,rfl,rfl,rfl,rfl,rfl,rfl,Ag⟩ ?_
     have hm34:=RN hFr.2 (MR (hpf q (by omega))) n (by dsimp only[ES];rw[←hy21];omega);dsimp only[Dk]at hm34;rw[←hy21,←hy32]at hm34;unfold Bd at hm34
     refine Bz 99 #[i6 y32.Frame,i6 y32.BG,i6 c.Kernel,i6 c.Room] (some 49) (.bool (meet y32.Frame y32.BG c.Kernel c.Room)) (fun w33 hw33=>P6 w33 y32.Frame y32.BG c.Kernel c.Room (by omega) (by omega) (by omega) (by omega)) (fun n35 (hn36:n23+1≤n35) => ?_)
     refine Dz [1,28,29,30,35,36,37,49] [(1,pt z),(J7 c b14 o15),(Ia c),(30,Ac q),(Qq y21 b25 o26),(KZ y21),(37,Ac n),(49,.bool (meet y32.Frame y32.BG c.Kernel c.Room))] ?_
     refine Yi (by kernel_rfl) ?_
     refine GZ ?_
     by_cases h37:(meet y32.Frame y32.BG c.Kernel c.Room)=true
     ·refine A7 6 0 [3] [[o0]] [Value.bool (meet y32.Frame y32.BG c.Kernel c.Room)=Value.bool true] [(2,.bool false)] rfl ⟨(congrArg Value.bool h37),Ag⟩ ?_
      refine AX [] [] (.bool false) Ag ?_
      intro w38 hw38
      refine⟨congrArg (fun b=>Ending.returned (Value.bool b)) (?_:false=Gy c),BC hw38⟩
      have en:Dk c q n=y32:=(by dsimp only[Dk];rw[←hy21,←hy32])
      have eo:(List.range c.Aa.xs.length).any (Vo c)=true:=range_any (k:=q) (by omega) (range_any (k:=n) (by dsimp only[ES];rw[←hy21];omega) (by unfold Xi;rw[en];exact h37))
      unfold Gy;simp[eo]
     refine A7 6 0 [2] [[(ov (i6 ((n+1:Nat):Int))),o0]] [Value.bool (meet y32.Frame y32.BG c.Kernel c.Room)=Value.bool false,Wr ((n:Int)+1) (((n+1:Nat):Int))] [(1,pt z),(J7 c b14 o15),(Ia c),(30,Ac q),(Qq y21 b25 o26),(KZ y21),(37,i6 ((n+1:Nat):Int))] rfl ⟨(congrArg Value.bool (Bool.eq_false_iff.2 h37)),CU,Ag⟩ ?_
     refine Cc [0,1,2] [(Ak w),(KH z c),(OY n12 y21)] rfl rfl ?_
     refine Fj [1,28,29,30,35,36,37] [(1,pt z),(J7 c b14 o15),(Ia c),(30,Ac q),(Pj y21),(KZ y21),(37,i6 ((n+1:Nat):Int))] (by(try dsimp only[OY,KH,J7,Qq,Oi,Pj,Ia,KZ]);simp only[ha27];rfl) ?_
     refine Cj (fun a w' hs=>⟨y21.Ah.xs.length - (n+1),by omega,n35,(n+1),rfl,by omega,by omega,Gj hh (by have en:Dk c q n=y32:=(by dsimp only[Dk];rw[←hy21,←hy32]);unfold Xi;rw[en];simpa using h37),hs⟩)
    refine A7 13 0 [0] [[oF],[(ov (i6 ((q+1:Nat):Int))),o0]] [BF ((n:Int)<(y21.Ah.xs.length:Int)),Wr ((q:Int)+1) (((q+1:Nat):Int))] [(1,pt z),(J7 c b14 o15),(Ia c),(30,i6 ((q+1:Nat):Int))] rfl ⟨bf,CU,Ag⟩ ?_
    refine Cc [0,1] [(Ak w),(KH z c)] rfl rfl ?_
    refine Fj [1,28,29,30] [(1,pt z),(Oi c),(Ia c),(30,i6 ((q+1:Nat):Int))] (by(try dsimp only[OY,KH,J7,Qq,Oi,Pj,Ia,KZ]);simp only[ha16];rfl) ?_
    refine Cj (fun a w' hs=>⟨c.Aa.xs.length - (q+1),by omega,n23,(q+1),rfl,by omega,by omega,Gj hg (IV (fun i hi=>hh i (by dsimp only[ES]at hi;rw[←hy21]at hi;omega))),hs⟩)
   refine A7 12 1 [0] [[oF],[(an 7 1)]] [BF ((q:Int)<(c.Aa.xs.length:Int)),Qb z,Qb z,Qb z,Qb z,Qb z,Qb z,Qb z] [(1,pt z),(53,.agg (Aj.arr c))] rfl ⟨bf,rfl,rfl,rfl,rfl,rfl,rfl,rfl,Ag⟩ ?_
   refine Bz 100 #[.agg (Aj.arr c)] (some 54) (.tuple #[i6 (JK c),i6 (errOf c)]) (fun w39 hw39=>Yz w39 c (hc.ext (hw39.ext rfl) (fun _ h=>h))) (fun n40 (hn41:n12≤n40) => ?_)
   refine BQ 3 0 [] [[o0,o0,o0,o0,o0]] [] [(1,pt z),(7,i6 (JK c)),(8,i6 (errOf c))] rfl Ag ?_
   by_cases h42:(errOf c:Int)=0
   ·by_cases h43:(c.Room:Int)<JK c
    ·refine A7 4 0 [] [[o0,oT,o0,o0,o0,(a1 1),oF,o0,o0]] [ET (errOf c) 0,Qb z,BF ((JK c:Int)≤c.Room)] [(2,.bool false)] rfl ⟨et,rfl,bf,Ag⟩ ?_
     refine AX [] [] (.bool false) Ag ?_
     intro w44 hw44
     refine⟨congrArg (fun b=>Ending.returned (Value.bool b)) (?_:false=Gy c),BC hw44⟩
     have eo:(List.range c.Aa.xs.length).any (Vo c)=false:=IV (fun i hi=>hg i (by omega))
     unfold Gy;rw[eo];simp[h4,h9];first | done | omega
    refine A7 4 0 [] [[o0,oT,o0,o0,o0,(a1 1),oT,o0,o0]] [ET (errOf c) 0,Qb z,BT ((JK c:Int)≤c.Room)] [(2,.bool true)] rfl ⟨et,rfl,bt,Ag⟩ ?_
    refine AX [] [] (.bool true) Ag ?_
    intro w45 hw45
    refine⟨congrArg (fun b=>Ending.returned (Value.bool b)) (?_:true=Gy c),BC hw45⟩
    have eo:(List.range c.Aa.xs.length).any (Vo c)=false:=IV (fun i hi=>hg i (by omega))
    unfold Gy;rw[eo];simp[h4,h9];first | done | omega
   refine A7 4 0 [] [[o0,oF,o0,o0,o0]] [EF (errOf c) 0] [(2,.bool false)] rfl ⟨ef,Ag⟩ ?_
   refine AX [] [] (.bool false) Ag ?_
   intro w46 hw46
   refine⟨congrArg (fun b=>Ending.returned (Value.bool b)) (?_:false=Gy c),BC hw46⟩
   have eo:(List.range c.Aa.xs.length).any (Vo c)=false:=IV (fun i hi=>hg i (by omega))
   unfold Gy;rw[eo];simp[h4,h9];first | done | omega
  have hd47:=Jn h9
  refine BQ 8 0 [1] [[(ov (.bool true)),o0],[o0]] [Value.bool (!(win c.Room 1 (c.Frames - c.Kernel)))=Value.bool true] [(2,.bool false)] rfl ⟨by simp[h9],Ag⟩ ?_
  refine AX [] [] (.bool false) Ag ?_
  intro w48 hw48
  refine⟨congrArg (fun b=>Ending.returned (Value.bool b)) (?_:false=Gy c),BC hw48⟩
  unfold Gy;simp[h4,h9]
 have hd49:=Jn h4
 refine BQ 8 0 [1] [[(ov (.bool true)),o0,o0],[o0]] [Value.bool (!(win c.Kernel 0 (c.Frames - 1)))=Value.bool true] [(2,.bool false)] rfl ⟨by simp[h4],Ag⟩ ?_
 refine AX [] [] (.bool false) Ag ?_
 intro w50 hw50
 refine⟨congrArg (fun b=>Ending.returned (Value.bool b)) (?_:false=Gy c),BC hw50⟩
 unfold Gy;simp[h4]
def FX(c:Aj):Ai:=Ae (win c.Frames 1 1024) 400 ⟨-1, -1⟩
def whole2(c:Aj):Ai:=Ae (win c.FQ 1 16384) 401 ⟨-1, -1⟩
def FU(c:Aj):Ai:=Ae (win (c.BB.xs.length:Int) 1 4) 402 ⟨-1, -1⟩
def FV(c:Aj):Ai:=Ae (win (c.Aa.xs.length:Int) 1 8) 403 ⟨-1, -1⟩
def FC(c:Aj):Ai:=Ae (decide ((c.Am.xs.length:Int)≤16)) 404 ⟨-1, -1⟩
def GH(c:Aj):Ai:=Ae (Gy c) 423 ⟨-1, -1⟩
theorem ZC(w:World)(hL:Gz w)(c:Aj)(hc:Aj.ok Any w c)(bc:Nat)(hbc:∀ (k:Nat) (v:Value),(Aj.cells c)[k]? = some v→w.cell? ⟨bc,0+k,none⟩=some v):Calls Tryd.prog 61 #[.pointer (some ⟨bc,0,none⟩)] w fun e w'=>e = .returned (.agg (Ai.arr (FX c)))∧CJ (fun _=>False) w w':=by
 obtain⟨z,hz⟩:∃ z,z=w.heap.size:=⟨_,rfl⟩
 refine BP (args:=[pt bc]) 7 ⟨w,z,[(Ak w)]⟩ Tryd.func61 rfl (by kernel_rfl) (by kernel_rfl) (EQ hz) ?_
 have hpl:=hc.Aa.1.len;have hpc:=hc.BB.1.len;have hpch:=hc.Am.1.len
 refine DZ [0] [(0,pt bc)] ?_
 refine q_c 5 0 [] [[o0]] [] [(0,pt bc),(1,pt z)] ⟨w,z+1,[(Ak w),(bk z #[i6 0,i6 0,i6 0] 111)]⟩ rfl Ag ?_
 refine DN 5 [0,1] [(Ak w),(bk z #[i6 0,i6 0,i6 0] 111)] rfl rfl ?_
 refine Jj [.tk 0 o0,.tk 1 (oa [.via 0 (i6 c.Frames)]),.tk 3 (oa [.via 0 (i6 (-1)),.via 0 (i6 (-1))]),.cl 2 (.bool (win c.Frames 1 1024)),.cl 4 (.agg (Ai.arr (Ae (win c.Frames 1 1024) 400 ⟨-1, -1⟩)))] [1,6] [(63,#[i6 c.Frames,i6 1,i6 1024],.bool (win c.Frames 1 1024)),(62,#[.bool (win c.Frames 1 1024),i6 400,.agg #[i6 (-1),i6 (-1)]],.agg (Ai.arr (Ae (win c.Frames 1 1024) 400 ⟨-1, -1⟩)))] (Dj 5 1) [Old w bc 0 (i6 c.Frames),Old w 1 0 (i6 (-1)),Old w 1 1 (i6 (-1))] [(1,pt z),(6,.agg (Ai.arr (Ae (win c.Frames 1 1024) 400 ⟨-1, -1⟩)))] [0,1] ⟨Aq (hbc 0 _ rfl),Aq (hL.1 0 _ rfl),Aq (hL.1 1 _ rfl),Ag⟩ ⟨fun w1 hw1=>Bl w1 c.Frames 1 1024,fun w2 hw2=>AQ w2 (hL.ext (hw2.ext rfl)) (win c.Frames 1 1024) 400 (-1) (-1),Ag⟩ (fun n3 hn4 => ?_)
 replace hn4:z+1≤n3:=hn4
 refine Bo 5 ?_
 refine Bq (an 3 1) [1] [Qb z,Qb z,Qb z] [(1,pt z)] ⟨w,n3,[(Ak w),(.blk z (.cells (Ai.arr (Ae (win c.Frames 1 1024) 400 ⟨-1, -1⟩)) 111 (0,0)) true)]⟩ [] ⟨rfl,rfl,rfl,Ag⟩ (.inl rfl) ?_
 refine D8 6 [0,1] [(Ak w),(.blk z (.cells (Ai.arr (Ae (win c.Frames 1 1024) 400 ⟨-1, -1⟩)) 111 (0,0)) true)] rfl rfl ?_
 refine CV ?_
 refine BR [1] [(1,pt z)] ?_
 refine GZ <| JA <| AX [.at 1,.at 1,.at 1] [Qb z,Qb z,Qb z] (.agg #[i6 ((Ae (win c.Frames 1 1024) 400 ⟨-1, -1⟩).e),i6 ((Ae (win c.Frames 1 1024) 400 ⟨-1, -1⟩).Af.First),i6 ((Ae (win c.Frames 1 1024) 400 ⟨-1, -1⟩).Af.Second)]) ⟨rfl,rfl,rfl,Ag⟩ ?_
 intro w5 hw5
 exact⟨congrArg (fun t=>Ending.returned (Value.agg (Ai.arr t))) (show(Ae (win c.Frames 1 1024) 400 ⟨-1, -1⟩)=FX c from by unfold FX;first | rfl | rw[decide_eq_false (by omega)] | rw[decide_eq_true (by omega)]),BC hw5⟩
theorem ZB(w:World)(hL:Gz w)(c:Aj)(hc:Aj.ok Any w c)(bc:Nat)(hbc:∀ (k:Nat) (v:Value),(Aj.cells c)[k]? = some v→w.cell? ⟨bc,0+k,none⟩=some v):Calls Tryd.prog 64 #[.pointer (some ⟨bc,0,none⟩)] w fun e w'=>e = .returned (.agg (Ai.arr (whole2 c)))∧CJ (fun _=>False) w w':=by
 obtain⟨z,hz⟩:∃ z,z=w.heap.size:=⟨_,rfl⟩
 refine BP (args:=[pt bc]) 7 ⟨w,z,[(Ak w)]⟩ Tryd.func64 rfl (by kernel_rfl) (by kernel_rfl) (EQ hz) ?_
 have hpl:=hc.Aa.1.len;have hpc:=hc.BB.1.len;have hpch:=hc.Am.1.len
 refine DZ [0] [(0,pt bc)] ?_
 refine q_c 5 0 [] [[o0]] [] [(0,pt bc),(1,pt z)] ⟨w,z+1,[(Ak w),(bk z #[i6 0,i6 0,i6 0] 111)]⟩ rfl Ag ?_
 refine DN 5 [0,1] [(Ak w),(bk z #[i6 0,i6 0,i6 0] 111)] rfl rfl ?_
 refine Jj [.tk 0 o0,.tk 1 (oa [.via 0 (i6 c.FQ)]),.tk 3 (oa [.via 0 (i6 (-1)),.via 0 (i6 (-1))]),.cl 2 (.bool (win c.FQ 1 16384)),.cl 4 (.agg (Ai.arr (Ae (win c.FQ 1 16384) 401 ⟨-1, -1⟩)))] [1,6] [(63,#[i6 c.FQ,i6 1,i6 16384],.bool (win c.FQ 1 16384)),(62,#[.bool (win c.FQ 1 16384),i6 401,.agg #[i6 (-1),i6 (-1)]],.agg (Ai.arr (Ae (win c.FQ 1 16384) 401 ⟨-1, -1⟩)))] (Dj 5 1) [Old w bc 1 (i6 c.FQ),Old w 1 0 (i6 (-1)),Old w 1 1 (i6 (-1))] [(1,pt z),(6,.agg (Ai.arr (Ae (win c.FQ 1 16384) 401 ⟨-1, -1⟩)))] [0,1] ⟨Aq (hbc 1 _ rfl),Aq (hL.1 0 _ rfl),Aq (hL.1 1 _ rfl),Ag⟩ ⟨fun w1 hw1=>Bl w1 c.FQ 1 16384,fun w2 hw2=>AQ w2 (hL.ext (hw2.ext rfl)) (win c.FQ 1 16384) 401 (-1) (-1),Ag⟩ (fun n3 hn4 => ?_)
 replace hn4:z+1≤n3:=hn4
 refine Bo 5 ?_
 refine Bq (an 3 1) [1] [Qb z,Qb z,Qb z] [(1,pt z)] ⟨w,n3,[(Ak w),(.blk z (.cells (Ai.arr (Ae (win c.FQ 1 16384) 401 ⟨-1, -1⟩)) 111 (0,0)) true)]⟩ [] ⟨rfl,rfl,rfl,Ag⟩ (.inl rfl) ?_
 refine D8 6 [0,1] [(Ak w),(.blk z (.cells (Ai.arr (Ae (win c.FQ 1 16384) 401 ⟨-1, -1⟩)) 111 (0,0)) true)] rfl rfl ?_
 refine CV ?_
 refine BR [1] [(1,pt z)] ?_
 refine GZ <| JA <| AX [.at 1,.at 1,.at 1] [Qb z,Qb z,Qb z] (.agg #[i6 ((Ae (win c.FQ 1 16384) 401 ⟨-1, -1⟩).e),i6 ((Ae (win c.FQ 1 16384) 401 ⟨-1, -1⟩).Af.First),i6 ((Ae (win c.FQ 1 16384) 401 ⟨-1, -1⟩).Af.Second)]) ⟨rfl,rfl,rfl,Ag⟩ ?_
 intro w5 hw5
 exact⟨congrArg (fun t=>Ending.returned (Value.agg (Ai.arr t))) (show(Ae (win c.FQ 1 16384) 401 ⟨-1, -1⟩)=whole2 c from by unfold whole2;first | rfl | rw[decide_eq_false (by omega)] | rw[decide_eq_true (by omega)]),BC hw5⟩
section
variable (z:Nat)(c:Aj)
abbrev YP:Ch:= .blk z (.cells (Ai.arr (Ae (win (c.BB.xs.length:Int) 1 4) 402 ⟨-1, -1⟩)) 111 (0,0)) true
end
theorem Z4(w:World)(hL:Gz w)(c:Aj)(hc:Aj.ok Any w c)(bc:Nat)(hbc:∀ (k:Nat) (v:Value),(Aj.cells c)[k]? = some v→w.cell? ⟨bc,0+k,none⟩=some v):Calls Tryd.prog 65 #[.pointer (some ⟨bc,0,none⟩)] w fun e w'=>e = .returned (.agg (Ai.arr (FU c)))∧CJ (fun _=>False) w w':=by
 obtain⟨z,hz⟩:∃ z,z=w.heap.size:=⟨_,rfl⟩
 refine BP (args:=[pt bc]) 8 ⟨w,z,[(Ak w)]⟩ Tryd.func65 rfl (by kernel_rfl) (by kernel_rfl) (EQ hz) ?_
 have hpl:=hc.Aa.1.len;have hpc:=hc.BB.1.len;have hpch:=hc.Am.1.len
 refine DZ [0] [(0,pt bc)] ?_
 refine q_c 5 0 [] [[o0]] [] [(0,pt bc),(1,pt z)] ⟨w,z+1,[(Ak w),(bk z #[i6 0,i6 0,i6 0] 111)]⟩ rfl Ag ?_
 refine DN 6 [0,1] [(Ak w),(bk z #[i6 0,i6 0,i6 0] 111)] rfl rfl ?_
 refine Jj [.tk 0 o0,.tk 1 (oa [.via 0 (.slice c.BB.a c.BB.xs.length c.BB.cap)]),.tk 2 o0,.tk 4 (oa [.via 0 (i6 (-1)),.via 0 (i6 (-1))]),.cl 3 (.bool (win (c.BB.xs.length:Int) 1 4)),.cl 5 (.agg (Ai.arr (Ae (win (c.BB.xs.length:Int) 1 4) 402 ⟨-1, -1⟩)))] [1,7] [(63,#[(Ac c.BB.xs.length),i6 1,i6 4],.bool (win (c.BB.xs.length:Int) 1 4)),(62,#[.bool (win (c.BB.xs.length:Int) 1 4),i6 402,.agg #[i6 (-1),i6 (-1)]],.agg (Ai.arr (Ae (win (c.BB.xs.length:Int) 1 4) 402 ⟨-1, -1⟩)))] (Dj 6 1) [Old w bc 4 (.slice c.BB.a c.BB.xs.length c.BB.cap),Old w 1 0 (i6 (-1)),Old w 1 1 (i6 (-1))] [(1,pt z),(7,.agg (Ai.arr (Ae (win (c.BB.xs.length:Int) 1 4) 402 ⟨-1, -1⟩)))] [0,1] ⟨Aq (hbc 4 _ rfl),Aq (hL.1 0 _ rfl),Aq (hL.1 1 _ rfl),Ag⟩ ⟨fun w1 hw1=>Bl w1 (c.BB.xs.length:Int) 1 4,fun w2 hw2=>AQ w2 (hL.ext (hw2.ext rfl)) (win (c.BB.xs.length:Int) 1 4) 402 (-1) (-1),Ag⟩ (fun n3 hn4 => ?_)
 replace hn4:z+1≤n3:=hn4
 refine Bo 6 ?_
 refine Bq (an 3 1) [1] [Qb z,Qb z,Qb z] [(1,pt z)] ⟨w,n3,[(Ak w),(YP z c)]⟩ [] ⟨rfl,rfl,rfl,Ag⟩ (.inl rfl) ?_
 refine D8 7 [0,1] [(Ak w),(YP z c)] rfl rfl ?_
 refine CV ?_
 refine BR [1] [(1,pt z)] ?_
 refine GZ <| JA <| AX [.at 1,.at 1,.at 1] [Qb z,Qb z,Qb z] (.agg #[i6 ((Ae (win (c.BB.xs.length:Int) 1 4) 402 ⟨-1, -1⟩).e),i6 ((Ae (win (c.BB.xs.length:Int) 1 4) 402 ⟨-1, -1⟩).Af.First),i6 ((Ae (win (c.BB.xs.length:Int) 1 4) 402 ⟨-1, -1⟩).Af.Second)]) ⟨rfl,rfl,rfl,Ag⟩ ?_
 intro w5 hw5
 exact⟨congrArg (fun t=>Ending.returned (Value.agg (Ai.arr t))) (show(Ae (win (c.BB.xs.length:Int) 1 4) 402 ⟨-1, -1⟩)=FU c from by unfold FU;first | rfl | rw[decide_eq_false (by omega)] | rw[decide_eq_true (by omega)]),BC hw5⟩
section
variable (z:Nat)(c:Aj)
abbrev YW:Ch:= .blk z (.cells (Ai.arr (Ae (win (c.Aa.xs.length:Int) 1 8) 403 ⟨-1, -1⟩)) 111 (0,0)) true
end
theorem Zab(w:World)(hL:Gz w)(c:Aj)(hc:Aj.ok Any w c)(bc:Nat)(hbc:∀ (k:Nat) (v:Value),(Aj.cells c)[k]? = some v→w.cell? ⟨bc,0+k,none⟩=some v):Calls Tryd.prog 66 #[.pointer (some ⟨bc,0,none⟩)] w fun e w'=>e = .returned (.agg (Ai.arr (FV c)))∧CJ (fun _=>False) w w':=by
 obtain⟨z,hz⟩:∃ z,z=w.heap.size:=⟨_,rfl⟩
 refine BP (args:=[pt bc]) 8 ⟨w,z,[(Ak w)]⟩ Tryd.func66 rfl (by kernel_rfl) (by kernel_rfl) (EQ hz) ?_
 have hpl:=hc.Aa.1.len;have hpc:=hc.BB.1.len;have hpch:=hc.Am.1.len
 refine DZ [0] [(0,pt bc)] ?_
 refine q_c 5 0 [] [[o0]] [] [(0,pt bc),(1,pt z)] ⟨w,z+1,[(Ak w),(bk z #[i6 0,i6 0,i6 0] 111)]⟩ rfl Ag ?_
 refine DN 6 [0,1] [(Ak w),(bk z #[i6 0,i6 0,i6 0] 111)] rfl rfl ?_
 refine Jj [.tk 0 o0,.tk 1 (oa [.via 0 (.slice c.Aa.a c.Aa.xs.length c.Aa.cap)]),.tk 2 o0,.tk 4 (oa [.via 0 (i6 (-1)),.via 0 (i6 (-1))]),.cl 3 (.bool (win (c.Aa.xs.length:Int) 1 8)),.cl 5 (.agg (Ai.arr (Ae (win (c.Aa.xs.length:Int) 1 8) 403 ⟨-1, -1⟩)))] [1,7] [(63,#[(Ac c.Aa.xs.length),i6 1,i6 8],.bool (win (c.Aa.xs.length:Int) 1 8)),(62,#[.bool (win (c.Aa.xs.length:Int) 1 8),i6 403,.agg #[i6 (-1),i6 (-1)]],.agg (Ai.arr (Ae (win (c.Aa.xs.length:Int) 1 8) 403 ⟨-1, -1⟩)))] (Dj 6 1) [Old w bc 5 (.slice c.Aa.a c.Aa.xs.length c.Aa.cap),Old w 1 0 (i6 (-1)),Old w 1 1 (i6 (-1))] [(1,pt z),(7,.agg (Ai.arr (Ae (win (c.Aa.xs.length:Int) 1 8) 403 ⟨-1, -1⟩)))] [0,1] ⟨Aq (hbc 5 _ rfl),Aq (hL.1 0 _ rfl),Aq (hL.1 1 _ rfl),Ag⟩ ⟨fun w1 hw1=>Bl w1 (c.Aa.xs.length:Int) 1 8,fun w2 hw2=>AQ w2 (hL.ext (hw2.ext rfl)) (win (c.Aa.xs.length:Int) 1 8) 403 (-1) (-1),Ag⟩ (fun n3 hn4 => ?_)
 replace hn4:z+1≤n3:=hn4
 refine Bo 6 ?_
 refine Bq (an 3 1) [1] [Qb z,Qb z,Qb z] [(1,pt z)] ⟨w,n3,[(Ak w),(YW z c)]⟩ [] ⟨rfl,rfl,rfl,Ag⟩ (.inl rfl) ?_
 refine D8 7 [0,1] [(Ak w),(YW z c)] rfl rfl ?_
 refine CV ?_
 refine BR [1] [(1,pt z)] ?_
 refine GZ <| JA <| AX [.at 1,.at 1,.at 1] [Qb z,Qb z,Qb z] (.agg #[i6 ((Ae (win (c.Aa.xs.length:Int) 1 8) 403 ⟨-1, -1⟩).e),i6 ((Ae (win (c.Aa.xs.length:Int) 1 8) 403 ⟨-1, -1⟩).Af.First),i6 ((Ae (win (c.Aa.xs.length:Int) 1 8) 403 ⟨-1, -1⟩).Af.Second)]) ⟨rfl,rfl,rfl,Ag⟩ ?_
 intro w5 hw5
 exact⟨congrArg (fun t=>Ending.returned (Value.agg (Ai.arr t))) (show(Ae (win (c.Aa.xs.length:Int) 1 8) 403 ⟨-1, -1⟩)=FV c from by unfold FV;first | rfl | rw[decide_eq_false (by omega)] | rw[decide_eq_true (by omega)]),BC hw5⟩
theorem Zz(w:World)(hL:Gz w)(c:Aj)(hc:Aj.ok Any w c)(bc:Nat)(hbc:∀ (k:Nat) (v:Value),(Aj.cells c)[k]? = some v→w.cell? ⟨bc,0+k,none⟩=some v):Calls Tryd.prog 67 #[.pointer (some ⟨bc,0,none⟩)] w fun e w'=>e = .returned (.agg (Ai.arr (FC c)))∧CJ (fun _=>False) w w':=by
 obtain⟨z,hz⟩:∃ z,z=w.heap.size:=⟨_,rfl⟩
 refine BP (args:=[pt bc]) 8 ⟨w,z,[(Ak w)]⟩ Tryd.func67 rfl (by kernel_rfl) (by kernel_rfl) (EQ hz) ?_
 have hpl:=hc.Aa.1.len;have hpc:=hc.BB.1.len;have hpch:=hc.Am.1.len
 refine DZ [0] [(0,pt bc)] ?_
 refine q_c 5 0 [] [[o0]] [] [(0,pt bc),(1,pt z)] ⟨w,z+1,[(Ak w),(bk z #[i6 0,i6 0,i6 0] 111)]⟩ rfl Ag ?_
 by_cases h1:(16:Int)<(c.Am.xs.length:Int)
 ·refine A7 1 5 [] [[o0,(oa [.via 0 (.slice c.Am.a c.Am.xs.length c.Am.cap)]),o0,oF,(oa [.via 0 (i6 (-1)),.via 0 (i6 (-1))])]] [Old w bc 6 (.slice c.Am.a c.Am.xs.length c.Am.cap),BF ((c.Am.xs.length:Int)≤16),Old w 1 0 (i6 (-1)),Old w 1 1 (i6 (-1))] [(1,pt z),(5,.bool false),(6,.agg #[i6 (-1),i6 (-1)])] rfl ⟨Aq (hbc 6 _ rfl),bf,Aq (hL.1 0 _ rfl),Aq (hL.1 1 _ rfl),Ag⟩ ?_
  refine Bz 62 #[.bool false,i6 404,.agg #[i6 (-1),i6 (-1)]] (some 7) (.agg (Ai.arr (Ae false 404 ⟨-1, -1⟩))) (fun w2 hw2=>AQ w2 (hL.ext (hw2.ext rfl)) false 404 (-1) (-1)) (fun n3 (hn4:z+1≤n3) => ?_)
  refine FD 3 0 [] [[(an 3 1)]] [Qb z,Qb z,Qb z] [(1,pt z)] ⟨w,n3,[(Ak w),(bk z (Ai.arr (Ae false 404 ⟨-1, -1⟩)) 111)]⟩ rfl ⟨rfl,rfl,rfl,Ag⟩ ?_
  refine AX [.at 1,.at 1,.at 1] [Qb z,Qb z,Qb z] (.agg #[i6 ((Ae false 404 ⟨-1, -1⟩).e),i6 ((Ae false 404 ⟨-1, -1⟩).Af.First),i6 ((Ae false 404 ⟨-1, -1⟩).Af.Second)]) ⟨rfl,rfl,rfl,Ag⟩ ?_
  intro w5 hw5
  exact⟨congrArg (fun t=>Ending.returned (Value.agg (Ai.arr t))) (show(Ae false 404 ⟨-1, -1⟩)=FC c from by unfold FC;first | rfl | rw[decide_eq_false (by omega)] | rw[decide_eq_true (by omega)]),BC hw5⟩
 refine A7 1 5 [] [[o0,(oa [.via 0 (.slice c.Am.a c.Am.xs.length c.Am.cap)]),o0,oT,(oa [.via 0 (i6 (-1)),.via 0 (i6 (-1))])]] [Old w bc 6 (.slice c.Am.a c.Am.xs.length c.Am.cap),BT ((c.Am.xs.length:Int)≤16),Old w 1 0 (i6 (-1)),Old w 1 1 (i6 (-1))] [(1,pt z),(5,.bool true),(6,.agg #[i6 (-1),i6 (-1)])] rfl ⟨Aq (hbc 6 _ rfl),bt,Aq (hL.1 0 _ rfl),Aq (hL.1 1 _ rfl),Ag⟩ ?_
 refine Bz 62 #[.bool true,i6 404,.agg #[i6 (-1),i6 (-1)]] (some 7) (.agg (Ai.arr (Ae true 404 ⟨-1, -1⟩))) (fun w6 hw6=>AQ w6 (hL.ext (hw6.ext rfl)) true 404 (-1) (-1)) (fun n7 (hn8:z+1≤n7) => ?_)
 refine FD 3 0 [] [[(an 3 1)]] [Qb z,Qb z,Qb z] [(1,pt z)] ⟨w,n7,[(Ak w),(bk z (Ai.arr (Ae true 404 ⟨-1, -1⟩)) 111)]⟩ rfl ⟨rfl,rfl,rfl,Ag⟩ ?_
 refine AX [.at 1,.at 1,.at 1] [Qb z,Qb z,Qb z] (.agg #[i6 ((Ae true 404 ⟨-1, -1⟩).e),i6 ((Ae true 404 ⟨-1, -1⟩).Af.First),i6 ((Ae true 404 ⟨-1, -1⟩).Af.Second)]) ⟨rfl,rfl,rfl,Ag⟩ ?_
 intro w9 hw9
 exact⟨congrArg (fun t=>Ending.returned (Value.agg (Ai.arr t))) (show(Ae true 404 ⟨-1, -1⟩)=FC c from by unfold FC;first | rfl | rw[decide_eq_false (by omega)] | rw[decide_eq_true (by omega)]),BC hw9⟩
theorem ZR(w:World)(hL:Gz w)(c:Aj)(hc:Aj.ok Any w c)(bc:Nat)(hbc:∀ (k:Nat) (v:Value),(Aj.cells c)[k]? = some v→w.cell? ⟨bc,0+k,none⟩=some v)(b p:Nat)(hb:∀ (k:Nat) (v:Value),[Value.int .i64 (p:Nat)][k]? = some v→w.cell? ⟨b,0+k,none⟩=some v)(hp:p<c.Aa.xs.length)(hFr:1≤c.Frames∧c.Frames≤1024)(hpf:∀ q,q<p→DK c q=BU):Calls Tryd.prog 68 #[.pointer (some ⟨bc,0,none⟩),.pointer (some ⟨b,0,none⟩)] w fun e w'=>e = .returned (.agg (Ai.arr (DK c p)))∧CJ (fun _=>False) w w':=by
 obtain⟨z,hz⟩:∃ z,z=w.heap.size:=⟨_,rfl⟩
 refine BP (args:=[pt bc,pt b]) 6 ⟨w,z,[(Ak w)]⟩ Tryd.func68 rfl (by kernel_rfl) (by kernel_rfl) (EQ hz) ?_
 have hpl:=hc.Aa.1.len;have hpc:=hc.BB.1.len;have hpch:=hc.Am.1.len
 refine DZ [0,1] [(0,pt bc),(1,pt b)] ?_
 refine q_c 6 2 [] [[o0],[(ol 0 (Aj.arr c)),(oa [.via 0 (Ac p)])]] [Ie w bc 0 (Aj.arr c),Old w b 0 (Ac p)] [(2,pt z),(3,.agg (Aj.arr c)),(4,Ac p)] ⟨w,z+1,[(Ak w),(bk z #[i6 0,i6 0,i6 0] 111)]⟩ rfl ⟨EL hbc,Aq (hb 0 _ rfl),Ag⟩ ?_
 refine Bz 69 #[.agg (Aj.arr c),Ac p] (some 5) (.agg (Ai.arr (DK c p))) (fun w1 hw1=>Oh w1 (hL.ext (hw1.ext rfl)) c (hc.ext (hw1.ext rfl) (fun _ h=>h)) p hp hFr hpf) (fun n2 (hn3:z+1≤n2) => ?_)
 refine FD 3 0 [] [[(an 3 1)]] [Qb z,Qb z,Qb z] [(2,pt z)] ⟨w,n2,[(Ak w),(bk z (Ai.arr (DK c p)) 111)]⟩ rfl ⟨rfl,rfl,rfl,Ag⟩ ?_
 refine AX [.at 1,.at 1,.at 1] [Qb z,Qb z,Qb z] (.agg #[i6 ((DK c p).e),i6 ((DK c p).Af.First),i6 ((DK c p).Af.Second)]) ⟨rfl,rfl,rfl,Ag⟩ ?_
 intro w4 hw4
 exact⟨rfl,BC hw4⟩
theorem ZP(w:World)(hL:Gz w)(c:Aj)(hc:Aj.ok Any w c)(bc:Nat)(hbc:∀ (k:Nat) (v:Value),(Aj.cells c)[k]? = some v→w.cell? ⟨bc,0+k,none⟩=some v)(b p:Nat)(hb:∀ (k:Nat) (v:Value),[Value.int .i64 (p:Nat)][k]? = some v→w.cell? ⟨b,0+k,none⟩=some v)(hp:p<c.Am.xs.length)(hm:c.Aa.xs.length≤1024)(hq:∀ p,p<c.Aa.xs.length→(gd c.Aa.xs p).AB.xs.length≤1024):Calls Tryd.prog 70 #[.pointer (some ⟨bc,0,none⟩),.pointer (some ⟨b,0,none⟩)] w fun e w'=>e = .returned (.agg (Ai.arr (DD c p)))∧CJ (fun _=>False) w w':=by
 obtain⟨z,hz⟩:∃ z,z=w.heap.size:=⟨_,rfl⟩
 refine BP (args:=[pt bc,pt b]) 6 ⟨w,z,[(Ak w)]⟩ Tryd.func70 rfl (by kernel_rfl) (by kernel_rfl) (EQ hz) ?_
 have hpl:=hc.Aa.1.len;have hpc:=hc.BB.1.len;have hpch:=hc.Am.1.len
 refine DZ [0,1] [(0,pt bc),(1,pt b)] ?_
 refine q_c 6 2 [] [[o0],[(ol 0 (Aj.arr c)),(oa [.via 0 (Ac p)])]] [Ie w bc 0 (Aj.arr c),Old w b 0 (Ac p)] [(2,pt z),(3,.agg (Aj.arr c)),(4,Ac p)] ⟨w,z+1,[(Ak w),(bk z #[i6 0,i6 0,i6 0] 111)]⟩ rfl ⟨EL hbc,Aq (hb 0 _ rfl),Ag⟩ ?_
 refine Bz 71 #[.agg (Aj.arr c),Ac p] (some 5) (.agg (Ai.arr (DD c p))) (fun w1 hw1=>Wx w1 (hL.ext (hw1.ext rfl)) c (hc.ext (hw1.ext rfl) (fun _ h=>h)) p hp hm hq) (fun n2 (hn3:z+1≤n2) => ?_)
 refine FD 3 0 [] [[(an 3 1)]] [Qb z,Qb z,Qb z] [(2,pt z)] ⟨w,n2,[(Ak w),(bk z (Ai.arr (DD c p)) 111)]⟩ rfl ⟨rfl,rfl,rfl,Ag⟩ ?_
 refine AX [.at 1,.at 1,.at 1] [Qb z,Qb z,Qb z] (.agg #[i6 ((DD c p).e),i6 ((DD c p).Af.First),i6 ((DD c p).Af.Second)]) ⟨rfl,rfl,rfl,Ag⟩ ?_
 intro w4 hw4
 exact⟨rfl,BC hw4⟩
theorem ZL(w:World)(hL:Gz w)(c:Aj)(hc:Aj.ok Any w c)(bc:Nat)(hbc:∀ (k:Nat) (v:Value),(Aj.cells c)[k]? = some v→w.cell? ⟨bc,0+k,none⟩=some v)(b p:Nat)(hb:∀ (k:Nat) (v:Value),[Value.int .i64 (p:Nat)][k]? = some v→w.cell? ⟨b,0+k,none⟩=some v)(hp:p<c.BB.xs.length)  : Calls Tryd.prog 72 #[.pointer (some ⟨bc,0,none⟩),.pointer (some ⟨b,0,none⟩)] w fun e w'=>e = .returned (.agg (Ai.arr (ER c p)))∧CJ (fun _=>False) w w':=by
 obtain⟨z,hz⟩:∃ z,z=w.heap.size:=⟨_,rfl⟩
 refine BP (args:=[pt bc,pt b]) 6 ⟨w,z,[(Ak w)]⟩ Tryd.func72 rfl (by kernel_rfl) (by kernel_rfl) (EQ hz) ?_
 have hpl:=hc.Aa.1.len;have hpc:=hc.BB.1.len;have hpch:=hc.Am.1.len
 refine DZ [0,1] [(0,pt bc),(1,pt b)] ?_
 refine q_c 6 2 [] [[o0],[(ol 0 (Aj.arr c)),(oa [.via 0 (Ac p)])]] [Ie w bc 0 (Aj.arr c),Old w b 0 (Ac p)] [(2,pt z),(3,.agg (Aj.arr c)),(4,Ac p)] ⟨w,z+1,[(Ak w),(bk z #[i6 0,i6 0,i6 0] 111)]⟩ rfl ⟨EL hbc,Aq (hb 0 _ rfl),Ag⟩ ?_
 refine Bz 73 #[.agg (Aj.arr c),Ac p] (some 5) (.agg (Ai.arr (ER c p))) (fun w1 hw1=>Yp w1 (hL.ext (hw1.ext rfl)) c (hc.ext (hw1.ext rfl) (fun _ h=>h)) p hp) (fun n2 (hn3:z+1≤n2) => ?_)
 refine FD 3 0 [] [[(an 3 1)]] [Qb z,Qb z,Qb z] [(2,pt z)] ⟨w,n2,[(Ak w),(bk z (Ai.arr (ER c p)) 111)]⟩ rfl ⟨rfl,rfl,rfl,Ag⟩ ?_
 refine AX [.at 1,.at 1,.at 1] [Qb z,Qb z,Qb z] (.agg #[i6 ((ER c p).e),i6 ((ER c p).Af.First),i6 ((ER c p).Af.Second)]) ⟨rfl,rfl,rfl,Ag⟩ ?_
 intro w4 hw4
 exact⟨rfl,BC hw4⟩
theorem ZH(w:World)(hL:Gz w)(c:Aj)(hc:Aj.ok Any w c)(bc:Nat)(hbc:∀ (k:Nat) (v:Value),(Aj.cells c)[k]? = some v→w.cell? ⟨bc,0+k,none⟩=some v)(hFr:1≤c.Frames∧c.Frames≤1024)(hpf:∀ q,q<c.Aa.xs.length→DK c q=BU):Calls Tryd.prog 74 #[.pointer (some ⟨bc,0,none⟩)] w fun e w'=>e = .returned (.agg (Ai.arr (GH c)))∧CJ (fun _=>False) w w':=by
 obtain⟨z,hz⟩:∃ z,z=w.heap.size:=⟨_,rfl⟩
 refine BP (args:=[pt bc]) 6 ⟨w,z,[(Ak w)]⟩ Tryd.func74 rfl (by kernel_rfl) (by kernel_rfl) (EQ hz) ?_
 have hpl:=hc.Aa.1.len;have hpc:=hc.BB.1.len;have hpch:=hc.Am.1.len
 refine DZ [0] [(0,pt bc)] ?_
 refine q_c 5 0 [] [[o0]] [] [(0,pt bc),(1,pt z)] ⟨w,z+1,[(Ak w),(bk z #[i6 0,i6 0,i6 0] 111)]⟩ rfl Ag ?_
 refine DN 4 [0,1] [(Ak w),(bk z #[i6 0,i6 0,i6 0] 111)] rfl rfl ?_
 refine Jj [.tk 0 (ol 0 (Aj.arr c)),.tk 2 (oa [.via 0 (i6 (-1)),.via 0 (i6 (-1))]),.cl 1 (.bool (Gy c)),.cl 3 (.agg (Ai.arr (Ae (Gy c) 423 ⟨-1, -1⟩)))] [1,5] [(75,#[.agg (Aj.arr c)],.bool (Gy c)),(62,#[.bool (Gy c),i6 423,.agg #[i6 (-1),i6 (-1)]],.agg (Ai.arr (Ae (Gy c) 423 ⟨-1, -1⟩)))] (Dj 4 1) [Ie w bc 0 (Aj.arr c),Old w 1 0 (i6 (-1)),Old w 1 1 (i6 (-1))] [(1,pt z),(5,.agg (Ai.arr (Ae (Gy c) 423 ⟨-1, -1⟩)))] [0,1] ⟨EL hbc,Aq (hL.1 0 _ rfl),Aq (hL.1 1 _ rfl),Ag⟩ ⟨fun w1 hw1=>Xn w1 (hL.ext (hw1.ext rfl)) c (hc.ext (hw1.ext rfl) (fun _ h=>h)) hFr hpf,fun w2 hw2=>AQ w2 (hL.ext (hw2.ext rfl)) (Gy c) 423 (-1) (-1),Ag⟩ (fun n3 hn4 => ?_)
 replace hn4:z+1≤n3:=hn4
 refine Bo 4 ?_
 refine Bq (an 3 1) [1] [Qb z,Qb z,Qb z] [(1,pt z)] ⟨w,n3,[(Ak w),(.blk z (.cells (Ai.arr (Ae (Gy c) 423 ⟨-1, -1⟩)) 111 (0,0)) true)]⟩ [] ⟨rfl,rfl,rfl,Ag⟩ (.inl rfl) ?_
 refine D8 5 [0,1] [(Ak w),(.blk z (.cells (Ai.arr (Ae (Gy c) 423 ⟨-1, -1⟩)) 111 (0,0)) true)] rfl rfl ?_
 refine CV ?_
 refine BR [1] [(1,pt z)] ?_
 refine GZ <| JA <| AX [.at 1,.at 1,.at 1] [Qb z,Qb z,Qb z] (.agg #[i6 ((Ae (Gy c) 423 ⟨-1, -1⟩).e),i6 ((Ae (Gy c) 423 ⟨-1, -1⟩).Af.First),i6 ((Ae (Gy c) 423 ⟨-1, -1⟩).Af.Second)]) ⟨rfl,rfl,rfl,Ag⟩ ?_
 intro w5 hw5
 exact⟨congrArg (fun t=>Ending.returned (Value.agg (Ai.arr t))) (show(Ae (Gy c) 423 ⟨-1, -1⟩)=GH c from by unfold GH;first | rfl | rw[decide_eq_false (by omega)] | rw[decide_eq_true (by omega)]),BC hw5⟩
end Go.Proofs.YtjdmhijaanmccaaDoor.Ad
