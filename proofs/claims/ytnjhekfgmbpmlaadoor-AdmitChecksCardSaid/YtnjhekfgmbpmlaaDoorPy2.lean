/- Packed: Ac, Ad, Ae, Af. No conditions. -/
import Derived.Test.YtnjhekfgmbpmlaaDoorPy1
set_option maxHeartbeats 4000000
namespace Go.Proofs.YtnjhekfgmbpmlaaDoor.Ad
open Go Go.Proofs.YtnjhekfgmbpmlaaDoor.Eng Go.Proofs.YtnjhekfgmbpmlaaDoor.Mem Go.Proofs.YtnjhekfgmbpmlaaDoor.Ly
set_option linter.unusedSimpArgs false
set_option linter.unusedVariables false
set_option maxRecDepth 100000
abbrev Xe(c:Aj)(p k:Nat):Bh:=gd (gd c.Aa.xs p).Am.xs k
def FO(h:Int)(q:Bh):Bool:=decide (q.Channel=h)&&q.Source
def FN(h:Int)(q:Bh):Bool:=decide (q.Channel=h) && !q.Source
def JD(f:Bh→Bool)(xs:List Ap)(n:Nat):Nat:=(List.range n).foldl (fun s p=>s+(gd xs p).Am.xs.countP f) 0
def NZ(f:Bh→Bool)(ys:List Bh)(n:Nat):Nat:=(ys.take n).countP f
theorem UV(f:Bh→Bool)(xs:List Ap)(n:Nat):JD f xs (n+1)=JD f xs n+(gd xs n).Am.xs.countP f:=by
 unfold JD;rw[List.range_succ,List.foldl_append];rfl
theorem MG(f:Bh→Bool)(ys:List Bh){n:Nat}(h:n<ys.length):NZ f ys (n+1)=NZ f ys n+if f (gd ys n)=true then 1 else 0:=by
 unfold NZ
 rw[List.take_add_one,List.getElem?_eq_getElem h,List.countP_append,F9 h]
 simp[List.countP_cons]
theorem YB(f:Bh→Bool)(ys:List Bh){n:Nat}(h:n=ys.length):NZ f ys n=ys.countP f:=by unfold NZ;rw[h,List.take_length]
theorem Zw(f:Bh→Bool)(ys:List Bh)(n:Nat):NZ f ys n≤n:=by
 unfold NZ;exact Nat.le_trans List.countP_le_length (by rw[List.length_take];exact Nat.min_le_left _ _)
theorem Xl{f:Bh→Bool}{xs:List Ap}{m:Nat}:∀ {n:Nat},(∀ p,p<n→(gd xs p).Am.xs.length≤m)→JD f xs n≤n*m
 | 0,_=>by simp[JD]
 | n+1,h=>by
  have ih:=Xl (f:=f) (n:=n) (fun p hp=>h p (by omega))
  have h1:=h n (by omega)
  have h2:(gd xs n).Am.xs.countP f≤(gd xs n).Am.xs.length:=List.countP_le_length
  rw[UV,Nat.succ_mul];omega
def II(c:Aj)(h:Int):Nat:=JD (FO h) c.Aa.xs c.Aa.xs.length
def BB(c:Aj)(h:Int):Nat:=JD (FN h) c.Aa.xs c.Aa.xs.length
section
variable (z:Nat)(c:Aj)(b4 o5:Nat)(k0 b15 o16:Nat)(y11:Sl Au)
abbrev OG:=bk z (Aj.arr c) 26
abbrev LM:DJ:=(14,.slice (some ⟨b4,o5,none⟩) (k0 - 0) (c.Aq.cap - 0))
abbrev TK:DJ:=(20,.slice (some ⟨b15,o16,none⟩) y11.xs.length y11.cap)
abbrev Qw:DJ:=(14,.slice c.Aq.a (k0 - 0) (c.Aq.cap - 0))
abbrev Oh:=(21,Ac y11.xs.length)
abbrev Q4:DJ:=(20,.slice y11.a y11.xs.length y11.cap)
abbrev JK:=(15,i6 ((k0 - 0:Nat):Int))
end
theorem Tu(w:World)(c:Aj)(hc:Aj.ok Any w c)(k0:Nat)(hk0:k0<c.Aq.xs.length)(p:Int):Calls Tryd.prog 72 #[.agg (Aj.arr c),.int .i64 (k0:Int),.int .i64 p] w fun e w'=>e = .returned (.bool (Ii c k0 p))∧CP (fun _=>False) w w':=by
 obtain⟨z,hz⟩:∃ z,z=w.heap.size:=⟨_,rfl⟩
 refine CE (args:=[.agg (Aj.arr c),Ac k0,i6 p]) 36 ⟨w,z,[(Ak w)]⟩ Tryd.func72 rfl (by kernel_rfl) (by kernel_rfl) (Ep hz) ?_
 have hpl:=hc.Aq.1.len;have hpc:=hc.Aq.1.le
 refine DC [0,1,2] [(0,.agg (Aj.arr c)),(1,Ac k0),(2,i6 p)] ?_
 refine q_c 10 0 [] [[o0,o0],[o0,(a1 1),o0,⟨.slc 0 k0 false,none⟩,o0,o0]] [Qb z,(0:Int)=((0:Nat):Int),Ci k0,0≤k0,k0≤c.Aq.cap,c.Aq.cap=0∨(0:Nat)=0] [(2,i6 p),(Qw c k0),(JK k0),(16,i6 0)] ⟨w,z+1,[(Ak w),(OG z c)]⟩ rfl ⟨rfl,rfl,rfl,(by omega),(by omega),.inr rfl,Ae⟩ ?_
 refine Di (fun m a w'=>∃ (n2:Nat) (k:Nat),m=k0 - k∧z+1≤n2∧(k≤k0)∧(∀ i,i<k→WZ c p i=false)∧St 36 [(2,i6 p),(Qw c k0),(JK k0),(16,Ac k)] [] ⟨w,n2,[(Ak w),(OG z c)]⟩ a w') (k0 - 0) ?_ ?_
 ·intro a w' hs;exact⟨(z+1),0,rfl,Nat.le_refl _,Nat.zero_le _,fun i hi=>absurd hi (Nat.not_lt_zero i),hs⟩
 rintro m a w' ⟨n2,k,rfl,hn1,hkk,hf,hs⟩
 refine(?_:G Tryd.prog 36 [(2,i6 p),(Qw c k0),(JK k0),(16,Ac k)] [] ⟨w,n2,[(Ak w),(OG z c)]⟩ _ _ _) a w' hs
 clear hs a w'
 refine Ce ?_
 by_cases h3:(k:Int)<((k0 - 0:Nat):Int)
 ·refine Az 10 0 [1] [[oT]] [BT ((k:Int)<((k0 - 0:Nat):Int))] [(2,i6 p),(Qw c k0),(JK k0),(16,Ac k),(17,.bool true)] rfl ⟨bt,Ae⟩ ?_
  obtain⟨b4,o5,ha6,hF8,hc7⟩:=(hc.Aq).1.all (show 0<c.Aq.xs.length by omega)
  replace ha6:c.Aq.a=some ⟨b4,o5,none⟩:=ha6
  refine MQ [(2,i6 p),(LM c b4 o5 k0),(JK k0),(16,Ac k),(17,.bool true)] (by(try dsimp only[OG,LM,Qw,JK]);simp only[ha6]) ?_
  have hc9:=hc7 k (show k<c.Aq.xs.length by omega)
  have he10:=(hc.Aq).2 k (show k<c.Aq.xs.length by omega)
  obtain⟨y11,hy11⟩:∃ y_,y_=gd c.Aq.xs k:=⟨_,rfl⟩
  rw[←hy11]at he10 hc9
  refine Az 8 0 [] [[(oi k),(oa [.via 0 (.slice y11.a y11.xs.length y11.cap)]),o0],[o0,o0,o0]] [Ci k,k<k0 - 0,BN,Old w b4 (o5+k) (.slice y11.a y11.xs.length y11.cap)] [(2,i6 p),(LM c b4 o5 k0),(JK k0),(16,Ac k),(Q4 y11),(Oh y11),(22,i6 0)] rfl ⟨rfl,(by omega),rfl,A7 (hc9 0 _ rfl),Ae⟩ ?_
  refine Di (fun m a w'=>∃ (n13:Nat) (j:Nat),m=y11.xs.length - j∧n2≤n13∧(j≤y11.xs.length)∧(∀ i,i<j→(decide (0≤p)&&decide ((gd (ED c k).xs i).Partition=p))=false)∧St 36 [(2,i6 p),(LM c b4 o5 k0),(JK k0),(16,Ac k),(Q4 y11),(Oh y11),(22,Ac j)] [] ⟨w,n13,[(Ak w),(OG z c)]⟩ a w') (y11.xs.length - 0) ?_ ?_
  ·intro a w' hs;exact⟨n2,0,rfl,Nat.le_refl _,Nat.zero_le _,fun i hi=>absurd hi (Nat.not_lt_zero i),hs⟩
  rintro m a w' ⟨n13,j,rfl,hn12,hkj,hg,hs⟩
  refine(?_:G Tryd.prog 36 [(2,i6 p),(LM c b4 o5 k0),(JK k0),(16,Ac k),(Q4 y11),(Oh y11),(22,Ac j)] [] ⟨w,n13,[(Ak w),(OG z c)]⟩ _ _ _) a w' hs
  clear hs a w'
  have hyl:=he10.1.len
  refine Ce ?_
  by_cases h14:(j:Int)<(y11.xs.length:Int)
  ·refine Az 10 0 [1] [[oT]] [BT ((j:Int)<(y11.xs.length:Int))] [(2,i6 p),(LM c b4 o5 k0),(JK k0),(16,Ac k),(Q4 y11),(Oh y11),(22,Ac j),(23,.bool true)] rfl ⟨bt,Ae⟩ ?_
   obtain⟨b15,o16,ha17,hF19,hc18⟩:=(he10).1.all (show 0<y11.xs.length by omega)
   replace ha17:y11.a=some ⟨b15,o16,none⟩:=ha17
   refine MQ [(2,i6 p),(LM c b4 o5 k0),(JK k0),(16,Ac k),(TK b15 o16 y11),(Oh y11),(22,Ac j),(23,.bool true)] (by(try dsimp only[OG,LM,TK,Qw,Oh,Q4,JK]);simp only[ha17]) ?_
   have hc20:=hc18 j (show j<y11.xs.length by omega)
   have he21:=(he10).2 j (show j<y11.xs.length by omega)
   obtain⟨y22,hy22⟩:∃ y_,y_=gd y11.xs j:=⟨_,rfl⟩
   rw[←hy22]at he21 hc20
   refine q_c 4 0 [] [[(oi j),(ol 0 (Au.arr y22)),o0,(an 3 2)]] [Ci j,j<y11.xs.length,BN,Fa w b15 (o16+j*3) (Au.arr y22),Qb n13,Qb n13,Qb n13] [(2,i6 p),(LM c b4 o5 k0),(JK k0),(16,Ac k),(TK b15 o16 y11),(Oh y11),(22,Ac j),(10,pt n13)] ⟨w,n13+1,[(Ak w),(OG z c),(bk n13 (Au.arr y22) 44)]⟩ rfl ⟨rfl,(by omega),rfl,Dt hc20,rfl,rfl,rfl,Ae⟩ ?_
   by_cases h23:(p:Int)<0
   ·refine Az 9 0 [0] [[o0,oF,o0,o0],[(ov (i6 ((j+1:Nat):Int))),o0]] [BF ((p:Int)≥0),Wr ((j:Int)+1) (((j+1:Nat):Int))] [(2,i6 p),(LM c b4 o5 k0),(JK k0),(16,Ac k),(TK b15 o16 y11),(Oh y11),(22,i6 ((j+1:Nat):Int))] rfl ⟨bf,BQ,Ae⟩ ?_
    refine Cb [0,1] [(Ak w),(OG z c)] rfl rfl ?_
    refine H5 [2,14,15,16,20,21,22] [(2,i6 p),(LM c b4 o5 k0),(JK k0),(16,Ac k),(Q4 y11),(Oh y11),(22,i6 ((j+1:Nat):Int))] (by(try dsimp only[OG,LM,TK,Qw,Oh,Q4,JK]);simp only[ha17];rfl) ?_
    refine BD (fun a w' hs=>⟨y11.xs.length - (j+1),by omega,(n13+1),(j+1),rfl,by omega,by omega,Fh hg (by have e:gd (ED c k).xs j=y22:=(by rw[hy22,hy11]);simp only[e];simp;omega),hs⟩)
   by_cases h24:(y22.Partition:Int)=p
   ·refine Az 9 0 [1] [[o0,oT,o0,o0,(a1 2),o0,oT,o0],[o0]] [BT ((p:Int)≥0),Qb n13,ET y22.Partition p] [(6,.bool true)] rfl ⟨bt,rfl,et,Ae⟩ ?_
    refine AA [] [] (.bool true) Ae ?_
    intro w25 hw25
    refine⟨congrArg (fun b=>Ending.returned (Value.bool b)) (?_:true=Ii c k0 p),AO hw25⟩
    refine Eq.symm (range_any (k:=k) (by omega) (range_any (k:=j) (by dsimp only[ED];rw[←hy11];omega) ?_))
    have e:gd (ED c k).xs j=y22:=(by rw[hy22,hy11]);simp only[e];simp;omega
   refine Az 9 0 [0] [[o0,oT,o0,o0,(a1 2),o0,oF,o0],[(ov (i6 ((j+1:Nat):Int))),o0]] [BT ((p:Int)≥0),Qb n13,EF y22.Partition p,Wr ((j:Int)+1) (((j+1:Nat):Int))] [(2,i6 p),(LM c b4 o5 k0),(JK k0),(16,Ac k),(TK b15 o16 y11),(Oh y11),(22,i6 ((j+1:Nat):Int))] rfl ⟨bt,rfl,ef,BQ,Ae⟩ ?_
   refine Cb [0,1] [(Ak w),(OG z c)] rfl rfl ?_
   refine H5 [2,14,15,16,20,21,22] [(2,i6 p),(LM c b4 o5 k0),(JK k0),(16,Ac k),(Q4 y11),(Oh y11),(22,i6 ((j+1:Nat):Int))] (by(try dsimp only[OG,LM,TK,Qw,Oh,Q4,JK]);simp only[ha17];rfl) ?_
   refine BD (fun a w' hs=>⟨y11.xs.length - (j+1),by omega,(n13+1),(j+1),rfl,by omega,by omega,Fh hg (by have e:gd (ED c k).xs j=y22:=(by rw[hy22,hy11]);simp only[e];simp;omega),hs⟩)
  refine Az 13 0 [0] [[oF],[(ov (i6 ((k+1:Nat):Int))),o0]] [BF ((j:Int)<(y11.xs.length:Int)),Wr ((k:Int)+1) (((k+1:Nat):Int))] [(2,i6 p),(LM c b4 o5 k0),(JK k0),(16,i6 ((k+1:Nat):Int))] rfl ⟨bf,BQ,Ae⟩ ?_
  refine H5 [2,14,15,16] [(2,i6 p),(Qw c k0),(JK k0),(16,i6 ((k+1:Nat):Int))] (by(try dsimp only[OG,LM,TK,Qw,Oh,Q4,JK]);simp only[ha6];rfl) ?_
  refine BD (fun a w' hs=>⟨k0 - (k+1),by omega,n13,(k+1),rfl,by omega,by omega,Fh hf (GL (fun i hi=>hg i (by dsimp only[ED]at hi;rw[←hy11]at hi;omega))),hs⟩)
 refine Az 15 0 [0] [[oF],[o0]] [BF ((k:Int)<((k0 - 0:Nat):Int))] [(6,.bool false)] rfl ⟨bf,Ae⟩ ?_
 refine AA [] [] (.bool false) Ae ?_
 intro w26 hw26
 refine⟨congrArg (fun b=>Ending.returned (Value.bool b)) (?_:false=Ii c k0 p),AO hw26⟩
 exact(GL (fun i hi=>hf i (by omega))).symm
section
variable (n2:Nat)(y11:Ap)(z:Nat)(c:Aj)(h:Int)(i j:Nat)(b4 o5:Nat)(b15 o16:Nat)
abbrev GV:=bk n2 (Ap.arr y11) 41
abbrev F5:=bk z (Aj.arr c) 26
abbrev FU:=(4,i6 ((JD (FO h) c.Aa.xs i+NZ (FO h) y11.Am.xs j:Nat):Int))
abbrev FT:=(5,i6 ((JD (FN h) c.Aa.xs i+NZ (FN h) y11.Am.xs j:Nat):Int))
abbrev FX:DJ:=(11,.slice (some ⟨b4,o5,none⟩) c.Aa.xs.length c.Aa.cap)
abbrev Ig:DJ:=(18,.slice (some ⟨b15,o16,none⟩) y11.Am.xs.length y11.Am.cap)
abbrev Gh:DJ:=(11,.slice c.Aa.a c.Aa.xs.length c.Aa.cap)
abbrev FW:=(4,i6 ((JD (FO h) c.Aa.xs i:Nat):Int))
abbrev F6:=(5,i6 ((JD (FN h) c.Aa.xs i:Nat):Int))
abbrev Hg:DJ:=(18,.slice y11.Am.a y11.Am.xs.length y11.Am.cap)
abbrev EM:=(12,Ac c.Aa.xs.length)
abbrev Fp:=(19,Ac y11.Am.xs.length)
abbrev EH:=(20,i6 ((j+1:Nat):Int))
end
theorem RJ(w:World)(c:Aj)(hc:Aj.ok Any w c)(h:Int)(hm:c.Aa.xs.length≤1024)(hq:∀ p,p<c.Aa.xs.length→(gd c.Aa.xs p).Am.xs.length≤1024):Calls Tryd.prog 71 #[.agg (Aj.arr c),.int .i64 h] w fun e w'=>e = .returned (.tuple #[.int .i64 (II c h:Nat),.int .i64 (BB c h:Nat)])∧CP (fun _=>False) w w':=by
 obtain⟨z,hz⟩:∃ z,z=w.heap.size:=⟨_,rfl⟩
 refine CE (args:=[.agg (Aj.arr c),i6 h]) 40 ⟨w,z,[(Ak w)]⟩ Tryd.func71 rfl (by kernel_rfl) (by kernel_rfl) (Ep hz) ?_
 have hpl:=hc.Aa.1.len
 refine DC [0,1] [(0,.agg (Aj.arr c)),(1,i6 h)] ?_
 refine q_c 10 0 [] [[o0,o0,o0],[o0,(a1 1),o0,o0]] [Qb z] [(1,i6 h),(4,i6 0),(5,i6 0),(Gh c),(EM c),(13,i6 0)] ⟨w,z+1,[(Ak w),(F5 z c)]⟩ rfl ⟨rfl,Ae⟩ ?_
 refine Di (fun m a w'=>∃ (n2:Nat) (i:Nat),m=c.Aa.xs.length - i∧z+1≤n2∧(i≤c.Aa.xs.length)∧St 40 [(1,i6 h),(FW c h i),(F6 c h i),(Gh c),(EM c),(13,Ac i)] [] ⟨w,n2,[(Ak w),(F5 z c)]⟩ a w') (c.Aa.xs.length - 0) ?_ ?_
 ·intro a w' hs;exact⟨(z+1),0,rfl,Nat.le_refl _,Nat.zero_le _,hs⟩
 rintro m a w' ⟨n2,i,rfl,hn1,hki,hs⟩
 refine(?_:G Tryd.prog 40 [(1,i6 h),(FW c h i),(F6 c h i),(Gh c),(EM c),(13,Ac i)] [] ⟨w,n2,[(Ak w),(F5 z c)]⟩ _ _ _) a w' hs
 clear hs a w'
 have bb4:=Xl (f:=FO h) (n:=i) (m:=1024) (fun p hp=>hq p (by omega))
 have bb5:=Xl (f:=FN h) (n:=i) (m:=1024) (fun p hp=>hq p (by omega))
 refine Ce ?_
 by_cases h3:(i:Int)<(c.Aa.xs.length:Int)
 ·refine Az 10 0 [1] [[oT]] [BT ((i:Int)<(c.Aa.xs.length:Int))] [(1,i6 h),(FW c h i),(F6 c h i),(Gh c),(EM c),(13,Ac i),(14,.bool true)] rfl ⟨bt,Ae⟩ ?_
  obtain⟨b4,o5,ha6,hF8,hc7⟩:=(hc.Aa).1.all (show 0<c.Aa.xs.length by omega)
  replace ha6:c.Aa.a=some ⟨b4,o5,none⟩:=ha6
  refine MQ [(1,i6 h),(FW c h i),(F6 c h i),(FX c b4 o5),(EM c),(13,Ac i),(14,.bool true)] (by(try dsimp only[F5,FX,Gh,FW,F6,EM]);simp only[ha6]) ?_
  have hc9:=hc7 i (show i<c.Aa.xs.length by omega)
  have he10:=(hc.Aa).2 i (show i<c.Aa.xs.length by omega)
  obtain⟨y11,hy11⟩:∃ y_,y_=gd c.Aa.xs i:=⟨_,rfl⟩
  rw[←hy11]at he10 hc9
  refine q_c 8 0 [] [[(oi i),(ol 0 (Ap.arr y11)),o0,(an 8 2)],[o0,(a1 2),o0,o0]] [Ci i,i<c.Aa.xs.length,BN,Fa w b4 (o5+i*8) (Ap.arr y11),Qb n2,Qb n2,Qb n2,Qb n2,Qb n2,Qb n2,Qb n2,Qb n2,Qb n2] [(1,i6 h),(FW c h i),(F6 c h i),(FX c b4 o5),(EM c),(13,Ac i),(Hg y11),(Fp y11),(20,i6 0)] ⟨w,n2+1,[(Ak w),(F5 z c),(GV n2 y11)]⟩ rfl ⟨rfl,(by omega),rfl,Dt hc9,rfl,rfl,rfl,rfl,rfl,rfl,rfl,rfl,rfl,Ae⟩ ?_
  refine Di (fun m a w'=>∃ (n13:Nat) (j:Nat),m=y11.Am.xs.length - j∧n2+1≤n13∧(j≤y11.Am.xs.length)∧St 40 [(1,i6 h),(FU y11 c h i j),(FT y11 c h i j),(FX c b4 o5),(EM c),(13,Ac i),(Hg y11),(Fp y11),(20,Ac j)] [] ⟨w,n13,[(Ak w),(F5 z c),(GV n2 y11)]⟩ a w') (y11.Am.xs.length - 0) ?_ ?_
  ·intro a w' hs;exact⟨(n2+1),0,rfl,Nat.le_refl _,Nat.zero_le _,hs⟩
  rintro m a w' ⟨n13,j,rfl,hn12,hkj,hs⟩
  refine(?_:G Tryd.prog 40 [(1,i6 h),(FU y11 c h i j),(FT y11 c h i j),(FX c b4 o5),(EM c),(13,Ac i),(Hg y11),(Fp y11),(20,Ac j)] [] ⟨w,n13,[(Ak w),(F5 z c),(GV n2 y11)]⟩ _ _ _) a w' hs
  clear hs a w'
  have c4:=Zw (FO h) y11.Am.xs j
  have c5:=Zw (FN h) y11.Am.xs j
  have hyl:=hq i (by omega);rw[←hy11]at hyl
  refine Ce ?_
  by_cases h14:(j:Int)<(y11.Am.xs.length:Int)
  ·refine Az 10 0 [1] [[oT]] [BT ((j:Int)<(y11.Am.xs.length:Int))] [(1,i6 h),(FU y11 c h i j),(FT y11 c h i j),(FX c b4 o5),(EM c),(13,Ac i),(Hg y11),(Fp y11),(20,Ac j),(21,.bool true)] rfl ⟨bt,Ae⟩ ?_
   obtain⟨b15,o16,ha17,hF19,hc18⟩:=(he10.Am).1.all (show 0<y11.Am.xs.length by omega)
   replace ha17:y11.Am.a=some ⟨b15,o16,none⟩:=ha17
   refine MQ [(1,i6 h),(FU y11 c h i j),(FT y11 c h i j),(FX c b4 o5),(EM c),(13,Ac i),(Ig y11 b15 o16),(Fp y11),(20,Ac j),(21,.bool true)] (by(try dsimp only[GV,F5,FU,FT,FX,Ig,Gh,FW,F6,Hg,EM,Fp]);simp only[ha17]) ?_
   have hc20:=hc18 j (show j<y11.Am.xs.length by omega)
   have he21:=(he10.Am).2 j (show j<y11.Am.xs.length by omega)
   obtain⟨y22,hy22⟩:∃ y_,y_=gd y11.Am.xs j:=⟨_,rfl⟩
   rw[←hy22]at he21 hc20
   refine q_c 5 0 [] [[(oi j),(ol 0 (Bh.arr y22)),o0,(an 2 3)]] [Ci j,j<y11.Am.xs.length,BN,Fa w b15 (o16+j*2) (Bh.arr y22),Qb n13,Qb n13] [(1,i6 h),(FU y11 c h i j),(FT y11 c h i j),(FX c b4 o5),(EM c),(13,Ac i),(Ig y11 b15 o16),(Fp y11),(20,Ac j),(9,pt n13)] ⟨w,n13+1,[(Ak w),(F5 z c),(GV n2 y11),(bk n13 (Bh.arr y22) 57)]⟩ rfl ⟨rfl,(by omega),rfl,Dt hc20,rfl,rfl,Ae⟩ ?_
   by_cases h23:(y22.Channel:Int)=h
   ·refine Az 8 0 [0] [[o0,(a1 3),o0,oF,o0],[o0,(a1 3),o0]] [Qb n13,NF y22.Channel h,Qb n13] [(1,i6 h),(FU y11 c h i j),(FT y11 c h i j),(FX c b4 o5),(EM c),(13,Ac i),(Ig y11 b15 o16),(Fp y11),(20,Ac j),(31,.bool y22.Source)] rfl ⟨rfl,nf,rfl,Ae⟩ ?_
    by_cases h24:y22.Source=true
    ·refine Az 8 0 [3] [[o0,(ov (i6 (((JD (FO h) c.Aa.xs i+NZ (FO h) y11.Am.xs j)+1:Nat):Int))),o0],[(ov (i6 ((j+1:Nat):Int))),o0]] [Value.bool y22.Source=Value.bool true,Wr ((((JD (FO h) c.Aa.xs i+NZ (FO h) y11.Am.xs j:Nat):Int):Int)+1) ((((JD (FO h) c.Aa.xs i+NZ (FO h) y11.Am.xs j)+1:Nat):Int)),Wr ((j:Int)+1) (((j+1:Nat):Int))] [(1,i6 h),(4,i6 (((JD (FO h) c.Aa.xs i+NZ (FO h) y11.Am.xs j)+1:Nat):Int)),(FT y11 c h i j),(FX c b4 o5),(EM c),(13,Ac i),(Ig y11 b15 o16),(Fp y11),(EH j)] rfl ⟨(congrArg Value.bool h24),BQ,BQ,Ae⟩ ?_
     refine Cb [0,1,2] [(Ak w),(F5 z c),(GV n2 y11)] rfl rfl ?_
     have e4:=MG (FO h) y11.Am.xs (n:=j) (by omega);rw[←hy22]at e4
     have e5:=MG (FN h) y11.Am.xs (n:=j) (by omega);rw[←hy22]at e5
     simp[FO,h23,h24]at e4
     simp[FN,h23,h24]at e5
     refine H5 [1,4,5,11,12,13,18,19,20] [(1,i6 h),(4,i6 (((JD (FO h) c.Aa.xs i+NZ (FO h) y11.Am.xs j)+1:Nat):Int)),(FT y11 c h i j),(FX c b4 o5),(EM c),(13,Ac i),(Hg y11),(Fp y11),(EH j)] (by(try dsimp only[GV,F5,FU,FT,FX,Ig,Gh,FW,F6,Hg,EM,Fp,EH]);simp only[ha17];rfl) ?_
     refine BD (fun a w' hs=>⟨y11.Am.xs.length - (j+1),by omega,(n13+1),(j+1),rfl,by omega,by omega,(by(try dsimp only[GV,F5,FU,FT,FX,Ig,Gh,FW,F6,Hg,EM,Fp,EH]at hs ⊢);rw[e4,e5];exact hs)⟩)
    refine Az 8 0 [2] [[o0,(ov (i6 (((JD (FN h) c.Aa.xs i+NZ (FN h) y11.Am.xs j)+1:Nat):Int))),o0],[(ov (i6 ((j+1:Nat):Int))),o0]] [Value.bool y22.Source=Value.bool false,Wr ((((JD (FN h) c.Aa.xs i+NZ (FN h) y11.Am.xs j:Nat):Int):Int)+1) ((((JD (FN h) c.Aa.xs i+NZ (FN h) y11.Am.xs j)+1:Nat):Int)),Wr ((j:Int)+1) (((j+1:Nat):Int))] [(1,i6 h),(FU y11 c h i j),(5,i6 (((JD (FN h) c.Aa.xs i+NZ (FN h) y11.Am.xs j)+1:Nat):Int)),(FX c b4 o5),(EM c),(13,Ac i),(Ig y11 b15 o16),(Fp y11),(EH j)] rfl ⟨(congrArg Value.bool (Bool.eq_false_iff.2 h24)),BQ,BQ,Ae⟩ ?_
    refine Cb [0,1,2] [(Ak w),(F5 z c),(GV n2 y11)] rfl rfl ?_
    have e4:=MG (FO h) y11.Am.xs (n:=j) (by omega);rw[←hy22]at e4
    have e5:=MG (FN h) y11.Am.xs (n:=j) (by omega);rw[←hy22]at e5
    simp[FO,h23,h24]at e4
    simp[FN,h23,h24]at e5
    refine H5 [1,4,5,11,12,13,18,19,20] [(1,i6 h),(FU y11 c h i j),(5,i6 (((JD (FN h) c.Aa.xs i+NZ (FN h) y11.Am.xs j)+1:Nat):Int)),(FX c b4 o5),(EM c),(13,Ac i),(Hg y11),(Fp y11),(EH j)] (by(try dsimp only[GV,F5,FU,FT,FX,Ig,Gh,FW,F6,Hg,EM,Fp,EH]);simp only[ha17];rfl) ?_
    refine BD (fun a w' hs=>⟨y11.Am.xs.length - (j+1),by omega,(n13+1),(j+1),rfl,by omega,by omega,(by(try dsimp only[GV,F5,FU,FT,FX,Ig,Gh,FW,F6,Hg,EM,Fp,EH]at hs ⊢);rw[e4,e5];exact hs)⟩)
   refine Az 10 0 [1] [[o0,(a1 3),o0,oT,o0],[(ov (i6 ((j+1:Nat):Int))),o0]] [Qb n13,NT y22.Channel h,Wr ((j:Int)+1) (((j+1:Nat):Int))] [(1,i6 h),(FU y11 c h i j),(FT y11 c h i j),(FX c b4 o5),(EM c),(13,Ac i),(Ig y11 b15 o16),(Fp y11),(EH j)] rfl ⟨rfl,nt,BQ,Ae⟩ ?_
   refine Cb [0,1,2] [(Ak w),(F5 z c),(GV n2 y11)] rfl rfl ?_
   have e4:=MG (FO h) y11.Am.xs (n:=j) (by omega);rw[←hy22]at e4
   have e5:=MG (FN h) y11.Am.xs (n:=j) (by omega);rw[←hy22]at e5
   simp[FO,h23]at e4
   simp[FN,h23]at e5
   refine H5 [1,4,5,11,12,13,18,19,20] [(1,i6 h),(FU y11 c h i j),(FT y11 c h i j),(FX c b4 o5),(EM c),(13,Ac i),(Hg y11),(Fp y11),(EH j)] (by(try dsimp only[GV,F5,FU,FT,FX,Ig,Gh,FW,F6,Hg,EM,Fp,EH]);simp only[ha17];rfl) ?_
   refine BD (fun a w' hs=>⟨y11.Am.xs.length - (j+1),by omega,(n13+1),(j+1),rfl,by omega,by omega,(by(try dsimp only[GV,F5,FU,FT,FX,Ig,Gh,FW,F6,Hg,EM,Fp,EH]at hs ⊢);rw[e4,e5];exact hs)⟩)
  refine Az 13 0 [0] [[oF],[(ov (i6 ((i+1:Nat):Int))),o0]] [BF ((j:Int)<(y11.Am.xs.length:Int)),Wr ((i:Int)+1) (((i+1:Nat):Int))] [(1,i6 h),(FU y11 c h i j),(FT y11 c h i j),(FX c b4 o5),(EM c),(13,i6 ((i+1:Nat):Int))] rfl ⟨bf,BQ,Ae⟩ ?_
  refine Cb [0,1] [(Ak w),(F5 z c)] rfl rfl ?_
  have e4:=UV (FO h) c.Aa.xs i;rw[←hy11]at e4
  have e5:=UV (FN h) c.Aa.xs i;rw[←hy11]at e5
  refine H5 [1,4,5,11,12,13] [(1,i6 h),(FU y11 c h i j),(FT y11 c h i j),(Gh c),(EM c),(13,i6 ((i+1:Nat):Int))] (by(try dsimp only[GV,F5,FU,FT,FX,Ig,Gh,FW,F6,Hg,EM,Fp,EH]);simp only[ha6];rfl) ?_
  refine BD (fun a w' hs=>⟨c.Aa.xs.length - (i+1),by omega,n13,(i+1),rfl,by omega,by omega,(by(try dsimp only[GV,F5,FU,FT,FX,Ig,Gh,FW,F6,Hg,EM,Fp,EH]at hs ⊢);rw[YB (FO h) y11.Am.xs (n:=j) (by omega),YB (FN h) y11.Am.xs (n:=j) (by omega),←e4,←e5]at hs;exact hs)⟩)
 refine Az 15 0 [0] [[oF],[o0,o0,o0,o0]] [BF ((i:Int)<(c.Aa.xs.length:Int))] [(FW c h i),(F6 c h i)] rfl ⟨bf,Ae⟩ ?_
 refine AA [] [] (.tuple #[i6 ((JD (FO h) c.Aa.xs i:Nat):Int),i6 ((JD (FN h) c.Aa.xs i:Nat):Int)]) Ae ?_
 intro w25 hw25
 exact⟨by rw[show i=c.Aa.xs.length from by omega];rfl,AO hw25⟩
def Bd(g:A8):Prop:=(0≤g.Bj∧g.Bj≤255)∧(1≤g.AV∧g.AV≤256)∧(0≤g.Frame∧g.Frame≤1024)
def Kr(c:Aj)(g:A8):Bool:=win g.Bj 0 255&&win g.AV 1 (256 - g.Bj)&&decide (0≤g.Frame)&&decide (g.AV≤c.Frames - g.Frame)&&win g.GM 1 7
def QD(c:Aj)(p k i:Nat):Bool:=meet (EC c p k).Bj (EC c p k).AV (EC c p i).Bj (EC c p i).AV
def PR(c:Aj)(p k q n:Nat):Bool:=(decide (q<p)||decide (n<k))&&meet (EC c p k).Frame (EC c p k).AV (EC c q n).Frame (EC c q n).AV
def Xy(c:Aj)(p k q:Nat):Bool:=(List.range (EQ c q).Af.xs.length).any (PR c p k q)
def ES(c:Aj)(p k:Nat):Ar:=if Kr c (EC c p k)=false then⟨409,⟨p,k⟩⟩else if(List.range k).any (QD c p k)=true then⟨410,⟨p,k⟩⟩else if(List.range (p+1)).any (Xy c p k)=true then⟨411,⟨p,k⟩⟩else Bg
theorem UX{c:Aj}{p k:Nat}(h:Kr c (EC c p k)=false):ES c p k=⟨409,⟨p,k⟩⟩:=by unfold ES;rw[if_pos h]
theorem regQ_b{c:Aj}{p k:Nat}(h:Kr c (EC c p k)=true)(h2:(List.range k).any (QD c p k)=true):ES c p k=⟨410,⟨p,k⟩⟩:=by unfold ES;rw[if_neg (by simp[h]),if_pos h2]
theorem ZT{c:Aj}{p k:Nat}(h:Kr c (EC c p k)=true)(h2:(List.range k).any (QD c p k)=false)(h3:(List.range (p+1)).any (Xy c p k)=true):ES c p k=⟨411,⟨p,k⟩⟩:=by unfold ES;rw[if_neg (by simp[h]),if_neg (by simp[h2]),if_pos h3]
theorem regQ_d{c:Aj}{p k:Nat}(h:Kr c (EC c p k)=true)(h2:(List.range k).any (QD c p k)=false)(h3:(List.range (p+1)).any (Xy c p k)=false):ES c p k=Bg:=by unfold ES;rw[if_neg (by simp[h]),if_neg (by simp[h2]),if_neg (by simp[h3])]
theorem Yv{c:Aj}{g:A8}(hF:c.Frames≤1024)(h:Kr c g=true):Bd g:=by
 unfold Kr win at h;simp at h;unfold Bd;omega
theorem XI{c:Aj}{p k:Nat}(h:ES c p k=Bg):Kr c (EC c p k)=true:=by
 by_cases hb:Kr c (EC c p k)=false
 ·rw[UX hb]at h;exact absurd (congrArg Ar.e h) (by decide:¬ (409:Int)=0)
 simpa using hb
section
variable (z p k:Nat)(y16:A8)(n58:Nat)(y62:Ap)(c:Aj)(b66 o67:Nat)(b1 o2:Nat)(b9 o10:Nat)(y8:Ap)(n:Nat)(w:World)
abbrev XG:=bk (z+1) #[i6 409,Ac p,Ac k] 73
abbrev Ny:=bk (z+1) #[i6 0,i6 0,i6 0] 73
abbrev JL:=bk (z+2) (A8.arr y16) 49
abbrev TB:=bk n58 (Ap.arr y62) 41
abbrev J9:=bk z (Aj.arr c) 26
abbrev OD:DJ:=(100,.slice (some ⟨b66,o67,none⟩) y62.Af.xs.length y62.Af.cap)
abbrev IU:DJ:=(92,.slice (some ⟨b1,o2,none⟩) (p+1 - 0) (c.Aa.cap - 0))
abbrev Qd:DJ:=(100,.slice y62.Af.a y62.Af.xs.length y62.Af.cap)
abbrev OX:DJ:=(68,.slice (some ⟨b9,o10,none⟩) (k - 0) (y8.Af.cap - 0))
abbrev KJ:=(101,Ac y62.Af.xs.length)
abbrev Ic:=(93,i6 ((p+1 - 0:Nat):Int))
abbrev Qs:=(102,i6 ((n+1:Nat):Int))
abbrev Ei:=(6,pt (z+1))
abbrev Fv:=(7,pt (z+2))
abbrev ND:=(69,i6 ((k - 0:Nat):Int))
abbrev PK:=[(Ak w),(J9 z c),(Ny z),(JL z y16),(TB n58 y62)]
end
theorem Zcr(w:World)(hL:JM w)(c:Aj)(hc:Aj.ok Any w c)(p k:Nat)(hp:p<c.Aa.xs.length)(hk:k<(gd c.Aa.xs p).Af.xs.length)(hFr:1≤c.Frames∧c.Frames≤1024)(hb:∀ q n,q≤p→n<(gd c.Aa.xs q).Af.xs.length→(q<p∨n<k)→Bd (EC c q n)):Calls Tryd.prog 68 #[.agg (Aj.arr c),.int .i64 (p:Int),.int .i64 (k:Int)] w fun e w'=>e = .returned (.agg (Ar.arr (ES c p k)))∧CP (fun _=>False) w w':=by
 obtain⟨z,hz⟩:∃ z,z=w.heap.size:=⟨_,rfl⟩
 refine CE (args:=[.agg (Aj.arr c),Ac p,Ac k]) 133 ⟨w,z,[(Ak w)]⟩ Tryd.func68 rfl (by kernel_rfl) (by kernel_rfl) (Ep hz) ?_
 have hpl:=hc.Aa.1.len;have hpc:=hc.Aa.1.le;have hrl:=(hc.Aa.2 p hp).Af.1.len;have hrc:=(hc.Aa.2 p hp).Af.1.le
 refine DC [0,1,2] [(0,.agg (Aj.arr c)),(1,Ac p),(2,Ac k)] ?_
 refine q_c 5 0 [] [[o0,o0]] [] [(1,Ac p),(2,Ac k),(3,pt z),(Ei z)] ⟨w,z+2,[(Ak w),(J9 z c),(Ny z)]⟩ rfl Ae ?_
 obtain⟨b1,o2,ha3,hF5,hc4⟩:=(hc.Aa).1.all (show 0<c.Aa.xs.length by omega)
 replace ha3:c.Aa.a=some ⟨b1,o2,none⟩:=ha3
 have hc6:=hc4 p (show p<c.Aa.xs.length by omega)
 have he7:=(hc.Aa).2 p (show p<c.Aa.xs.length by omega)
 obtain⟨y8,hy8⟩:∃ y_,y_=gd c.Aa.xs p:=⟨_,rfl⟩
 rw[←hy8]at he7 hc6
 (try rw[←hy8]at hk hrl hrc)
 obtain⟨b9,o10,ha11,hF13,hc12⟩:=(he7.Af).1.all (show 0<y8.Af.xs.length by omega)
 replace ha11:y8.Af.a=some ⟨b9,o10,none⟩:=ha11
 have hc14:=hc12 k (show k<y8.Af.xs.length by omega)
 have he15:=(he7.Af).2 k (show k<y8.Af.xs.length by omega)
 obtain⟨y16,hy16⟩:∃ y_,y_=gd y8.Af.xs k:=⟨_,rfl⟩
 rw[←hy16]at he15 hc14
 have hfy16:(-9223372036854775808:Int)≤y16.Frame∧y16.Frame≤9223372036854775807:=he15.Frame
 refine q_c 6 2 [] [[o0,(DN 1 b1 o2 c.Aa),o0,(oi p),o0,⟨.auto [.via 0 (.slice y8.Af.a y8.Af.xs.length y8.Af.cap)],some (.slice (some ⟨b9,o10,none⟩) y8.Af.xs.length y8.Af.cap)⟩,o0,(oi k),(ol 0 (A8.arr y16)),o0,(an 4 3)],[o0,(a1 3)]] [Qb z,Dh b1 o2 c.Aa,Ci p,p<c.Aa.xs.length,BN,Old w b1 (o2+p*8+6) (.slice y8.Af.a y8.Af.xs.length y8.Af.cap),Dh b9 o10 y8.Af,Ci k,k<y8.Af.xs.length,BN,Fa w b9 (o10+k*4) (A8.arr y16),Qb (z+2),Qb (z+2),Qb (z+2),Qb (z+2),Qb (z+2)] [(1,Ac p),(2,Ac k),(3,pt z),(Ei z),(Fv z),(24,i6 y16.Bj)] ⟨w,z+3,[(Ak w),(J9 z c),(Ny z),(JL z y16)]⟩ rfl ⟨rfl,Df ha3,rfl,(by omega),rfl,A7 (hc6 6 _ rfl),Df ha11,rfl,(by omega),rfl,Dt hc14,rfl,rfl,rfl,rfl,rfl,Ae⟩ ?_
 refine Bf 42 #[i6 y16.Bj,i6 0,i6 255] (some 25) (.bool (win y16.Bj 0 255)) (fun w17 hw17=>Cj w17 y16.Bj 0 255) (fun n18 (hn19:z+3≤n18) => ?_)
 refine Dc [1,2,3,6,7,25] [(1,Ac p),(2,Ac k),(3,pt z),(Ei z),(Fv z),(25,.bool (win y16.Bj 0 255))] ?_
 by_cases h20:(win y16.Bj 0 255)=true
 ·have hd21:=EE h20
  refine BP 0 7 [] [[(ov (.bool false)),o0,o0,(a1 3),o0,(a1 3),(ov (i6 (256 - y16.Bj)))]] [Value.bool (!(win y16.Bj 0 255))=Value.bool false,Qb (z+2),Qb (z+2),Wr ((256:Int) - y16.Bj) (256 - y16.Bj)] [(1,Ac p),(2,Ac k),(3,pt z),(Ei z),(Fv z),(27,.bool false),(29,i6 y16.AV),(32,i6 (256 - y16.Bj))] rfl ⟨by simp[h20],rfl,rfl,BQ,Ae⟩ ?_
  refine Bf 42 #[i6 y16.AV,i6 1,i6 (256 - y16.Bj)] (some 33) (.bool (win y16.AV 1 (256 - y16.Bj))) (fun w22 hw22=>Cj w22 y16.AV 1 (256 - y16.Bj)) (fun n23 (hn24:n18≤n23) => ?_)
  refine Dc [1,2,3,6,7,27,33] [(1,Ac p),(2,Ac k),(3,pt z),(Ei z),(Fv z),(27,.bool false),(33,.bool (win y16.AV 1 (256 - y16.Bj)))] ?_
  by_cases h25:(win y16.AV 1 (256 - y16.Bj))=true
  ·have hd26:=EE h25
   by_cases h27:(y16.Frame:Int)<0
   ·refine BP 5 2 [1] [[(ov (.bool false)),o0,o0,o0,(a1 3),oT,o0,o0,o0,o0,o0],[o0,o0]] [Value.bool (!(win y16.AV 1 (256 - y16.Bj)))=Value.bool false,Qb (z+2),BT ((y16.Frame:Int)<0)] [(Ei z),(57,Ac p),(58,Ac k)] rfl ⟨by simp[h25],rfl,bt,Ae⟩ ?_
    refine Bf 70 #[(Ac p),Ac k] (some 59) (.agg #[(Ac p),Ac k]) (fun w28 hw28=>GX w28 (p:Int) (k:Int)) (fun n29 (hn30:n23≤n29) => ?_)
    refine EY 3 0 [] [[o0,(an 3 2)]] [Qb (z+1),Qb (z+1),Qb (z+1)] [(Ei z)] ⟨w,n29,[(Ak w),(J9 z c),(XG z p k),(JL z y16)]⟩ rfl ⟨rfl,rfl,rfl,Ae⟩ ?_
    refine AA [.at 2,.at 2,.at 2] [Qb (z+1),Qb (z+1),Qb (z+1)] (.agg #[i6 409,Ac p,Ac k]) ⟨rfl,rfl,rfl,Ae⟩ ?_
    intro w31 hw31
    refine⟨congrArg Ending.returned (?_:Value.agg #[i6 409,Ac p,Ac k] = .agg (Ar.arr (ES c p k))),AO hw31⟩
    have hq:ES c p k=_:=UX (by have ek:EC c p k=y16:=(by dsimp only[EC];rw[←hy8,←hy16]);rw[ek];unfold Kr win;simp;omega)
    exact(congrArg (fun t=>Value.agg (Ar.arr t)) hq).symm
   by_cases h32:(c.Frames - y16.Frame:Int)<y16.AV
   ·refine BP 5 2 [1] [[(ov (.bool false)),o0,o0,o0,(a1 3),oF,o0,o0,o0,(a1 3),o0,(a1 1),o0,(a1 3),(ov (i6 (c.Frames - y16.Frame))),oT,o0,o0,o0],[o0,o0]] [Value.bool (!(win y16.AV 1 (256 - y16.Bj)))=Value.bool false,Qb (z+2),BF ((y16.Frame:Int)<0),Qb (z+2),Qb z,Qb (z+2),Wr ((c.Frames:Int) - y16.Frame) (c.Frames - y16.Frame),BT ((y16.AV:Int) > (c.Frames - y16.Frame))] [(Ei z),(57,Ac p),(58,Ac k)] rfl ⟨by simp[h25],rfl,bf,rfl,rfl,rfl,BQ,bt,Ae⟩ ?_
    refine Bf 70 #[(Ac p),Ac k] (some 59) (.agg #[(Ac p),Ac k]) (fun w33 hw33=>GX w33 (p:Int) (k:Int)) (fun n34 (hn35:n23≤n34) => ?_)
    refine EY 3 0 [] [[o0,(an 3 2)]] [Qb (z+1),Qb (z+1),Qb (z+1)] [(Ei z)] ⟨w,n34,[(Ak w),(J9 z c),(XG z p k),(JL z y16)]⟩ rfl ⟨rfl,rfl,rfl,Ae⟩ ?_
    refine AA [.at 2,.at 2,.at 2] [Qb (z+1),Qb (z+1),Qb (z+1)] (.agg #[i6 409,Ac p,Ac k]) ⟨rfl,rfl,rfl,Ae⟩ ?_
    intro w36 hw36
    refine⟨congrArg Ending.returned (?_:Value.agg #[i6 409,Ac p,Ac k] = .agg (Ar.arr (ES c p k))),AO hw36⟩
    have hq:ES c p k=_:=UX (by have ek:EC c p k=y16:=(by dsimp only[EC];rw[←hy8,←hy16]);rw[ek];unfold Kr win;simp;omega)
    exact(congrArg (fun t=>Value.agg (Ar.arr t)) hq).symm
   refine BP 0 20 [] [[(ov (.bool false)),o0,o0,o0,(a1 3),oF,o0,o0,o0,(a1 3),o0,(a1 1),o0,(a1 3),(ov (i6 (c.Frames - y16.Frame))),oF,o0,o0,o0,(a1 3)]] [Value.bool (!(win y16.AV 1 (256 - y16.Bj)))=Value.bool false,Qb (z+2),BF ((y16.Frame:Int)<0),Qb (z+2),Qb z,Qb (z+2),Wr ((c.Frames:Int) - y16.Frame) (c.Frames - y16.Frame),BF ((y16.AV:Int) > (c.Frames - y16.Frame)),Qb (z+2)] [(1,Ac p),(2,Ac k),(3,pt z),(Ei z),(Fv z),(51,.bool false),(53,i6 y16.GM)] rfl ⟨by simp[h25],rfl,bf,rfl,rfl,rfl,BQ,bf,rfl,Ae⟩ ?_
   refine Bf 42 #[i6 y16.GM,i6 1,i6 7] (some 54) (.bool (win y16.GM 1 7)) (fun w37 hw37=>Cj w37 y16.GM 1 7) (fun n38 (hn39:n23≤n38) => ?_)
   refine Dc [1,2,3,6,7,51,54] [(1,Ac p),(2,Ac k),(3,pt z),(Ei z),(Fv z),(51,.bool false),(54,.bool (win y16.GM 1 7))] ?_
   by_cases h40:(win y16.GM 1 7)=true
   ·have hd41:=EE h40
    refine BP 11 0 [0] [[(ov (.bool false)),o0],[o0,(DN 1 b1 o2 c.Aa),o0,(oi p),o0,⟨.auto [.via 0 (.slice y8.Af.a y8.Af.xs.length y8.Af.cap)],some (.slice (some ⟨b9,o10,none⟩) y8.Af.xs.length y8.Af.cap)⟩,o0,⟨.slc 0 k false,none⟩,o0,o0]] [Value.bool (!(win y16.GM 1 7))=Value.bool false,Qb z,Dh b1 o2 c.Aa,Ci p,p<c.Aa.xs.length,BN,Old w b1 (o2+p*8+6) (.slice y8.Af.a y8.Af.xs.length y8.Af.cap),Dh b9 o10 y8.Af,(0:Int)=((0:Nat):Int),Ci k,0≤k,k≤y8.Af.cap,y8.Af.cap=0∨(0:Nat)=0] [(1,Ac p),(2,Ac k),(3,pt z),(Ei z),(Fv z),(OX k b9 o10 y8),(ND k),(70,i6 0)] rfl ⟨by simp[h40],rfl,Df ha3,rfl,(by omega),rfl,A7 (hc6 6 _ rfl),Df ha11,rfl,rfl,(by omega),(by omega),.inr rfl,Ae⟩ ?_
    refine Di (fun m a w'=>∃ (n43:Nat) (i:Nat),m=k - i∧n38≤n43∧(i≤k)∧(∀ a,a<i→QD c p k a=false)∧St 133 [(1,Ac p),(2,Ac k),(3,pt z),(Ei z),(Fv z),(OX k b9 o10 y8),(ND k),(70,Ac i)] [] ⟨w,n43,[(Ak w),(J9 z c),(Ny z),(JL z y16)]⟩ a w') (k - 0) ?_ ?_
    ·intro a w' hs;exact⟨n38,0,rfl,Nat.le_refl _,Nat.zero_le _,fun i hi=>absurd hi (Nat.not_lt_zero i),hs⟩
    rintro m a w' ⟨n43,i,rfl,hn42,hki,hf,hs⟩
    refine(?_:G Tryd.prog 133 [(1,Ac p),(2,Ac k),(3,pt z),(Ei z),(Fv z),(OX k b9 o10 y8),(ND k),(70,Ac i)] [] ⟨w,n43,[(Ak w),(J9 z c),(Ny z),(JL z y16)]⟩ _ _ _) a w' hs
    clear hs a w'
    have hbb:Kr c (EC c p k)=true:=(by have ek:EC c p k=y16:=(by dsimp only[EC];rw[←hy8,←hy16]);rw[ek];unfold Kr win;simp;omega)
    refine Ce ?_
    by_cases h44:(i:Int)<((k - 0:Nat):Int)
    ·refine Az 10 0 [1] [[oT]] [BT ((i:Int)<((k - 0:Nat):Int))] [(1,Ac p),(2,Ac k),(3,pt z),(Ei z),(Fv z),(OX k b9 o10 y8),(ND k),(70,Ac i),(71,.bool true)] rfl ⟨bt,Ae⟩ ?_
     have hc45:=hc12 i (show i<y8.Af.xs.length by omega)
     have he46:=(he7.Af).2 i (show i<y8.Af.xs.length by omega)
     obtain⟨y47,hy47⟩:∃ y_,y_=gd y8.Af.xs i:=⟨_,rfl⟩
     rw[←hy47]at he46 hc45
     have hfy47:(-9223372036854775808:Int)≤y47.Frame∧y47.Frame≤9223372036854775807:=he46.Frame
     refine q_c 5 8 [] [[(oi i),(ol 0 (A8.arr y47)),o0,(an 4 4)],[o0,(a1 3),o0,(a1 3),o0,(a1 4),o0,(a1 4)]] [Ci i,i<k - 0,BN,Fa w b9 (o10+i*4) (A8.arr y47),Qb n43,Qb n43,Qb n43,Qb n43,Qb (z+2),Qb (z+2),Qb n43,Qb n43] [(1,Ac p),(2,Ac k),(3,pt z),(Ei z),(Fv z),(OX k b9 o10 y8),(ND k),(70,Ac i),(75,i6 y16.Bj),(77,i6 y16.AV),(79,i6 y47.Bj),(81,i6 y47.AV)] ⟨w,n43+1,[(Ak w),(J9 z c),(Ny z),(JL z y16),(bk n43 (A8.arr y47) 49)]⟩ rfl ⟨rfl,(by omega),rfl,Dt hc45,rfl,rfl,rfl,rfl,rfl,rfl,rfl,rfl,Ae⟩ ?_
     have hm49:=hb p i (by omega) (by rw[←hy8];omega) (by omega);dsimp only[EC]at hm49;rw[←hy8,←hy47]at hm49;unfold Bd at hm49
     refine Bf 73 #[i6 y16.Bj,i6 y16.AV,i6 y47.Bj,i6 y47.AV] (some 82) (.bool (meet y16.Bj y16.AV y47.Bj y47.AV)) (fun w48 hw48=>TQ w48 y16.Bj y16.AV y47.Bj y47.AV (by omega) (by omega) (by omega) (by omega)) (fun n50 (hn51:n43+1≤n50) => ?_)
     refine Dc [1,2,3,6,7,68,69,70,82] [(1,Ac p),(2,Ac k),(3,pt z),(Ei z),(Fv z),(OX k b9 o10 y8),(ND k),(70,Ac i),(82,.bool (meet y16.Bj y16.AV y47.Bj y47.AV))] ?_
     refine TU (by kernel_rfl) ?_
     refine IM ?_
     by_cases h52:(meet y16.Bj y16.AV y47.Bj y47.AV)=true
     ·refine Az 3 2 [3] [[o0,o0]] [Value.bool (meet y16.Bj y16.AV y47.Bj y47.AV)=Value.bool true] [(Ei z),(83,Ac p),(84,Ac k)] rfl ⟨(congrArg Value.bool h52),Ae⟩ ?_
      refine Bf 70 #[(Ac p),Ac k] (some 85) (.agg #[(Ac p),Ac k]) (fun w53 hw53=>GX w53 (p:Int) (k:Int)) (fun n54 (hn55:n50≤n54) => ?_)
      refine EY 3 0 [] [[o0,(an 3 2)]] [Qb (z+1),Qb (z+1),Qb (z+1)] [(Ei z)] ⟨w,n54,[(Ak w),(J9 z c),(bk (z+1) #[i6 410,Ac p,Ac k] 73),(JL z y16),(bk n43 (A8.arr y47) 49)]⟩ rfl ⟨rfl,rfl,rfl,Ae⟩ ?_
      refine AA [.at 2,.at 2,.at 2] [Qb (z+1),Qb (z+1),Qb (z+1)] (.agg #[i6 410,Ac p,Ac k]) ⟨rfl,rfl,rfl,Ae⟩ ?_
      intro w56 hw56
      refine⟨congrArg Ending.returned (?_:Value.agg #[i6 410,Ac p,Ac k] = .agg (Ar.arr (ES c p k))),AO hw56⟩
      have hq:ES c p k=_:=regQ_b hbb (range_any (k:=i) (by omega) (by have ek:EC c p k=y16:=(by dsimp only[EC];rw[←hy8,←hy16]);have ei:EC c p i=y47:=(by dsimp only[EC];rw[←hy8,←hy47]);unfold QD;rw[ek,ei];exact h52))
      exact(congrArg (fun t=>Value.agg (Ar.arr t)) hq).symm
     refine Az 6 0 [2] [[(ov (i6 ((i+1:Nat):Int))),o0]] [Value.bool (meet y16.Bj y16.AV y47.Bj y47.AV)=Value.bool false,Wr ((i:Int)+1) (((i+1:Nat):Int))] [(1,Ac p),(2,Ac k),(3,pt z),(Ei z),(Fv z),(OX k b9 o10 y8),(ND k),(70,i6 ((i+1:Nat):Int))] rfl ⟨(congrArg Value.bool (Bool.eq_false_iff.2 h52)),BQ,Ae⟩ ?_
     refine Cb [0,1,2,3] [(Ak w),(J9 z c),(Ny z),(JL z y16)] rfl rfl ?_
     refine BK [1,2,3,6,7,68,69,70] [(1,Ac p),(2,Ac k),(3,pt z),(Ei z),(Fv z),(OX k b9 o10 y8),(ND k),(70,i6 ((i+1:Nat):Int))] ?_
     refine BD (fun a w' hs=>⟨k - (i+1),by omega,n50,(i+1),rfl,by omega,by omega,Fh hf (by have ek:EC c p k=y16:=(by dsimp only[EC];rw[←hy8,←hy16]);have ei:EC c p i=y47:=(by dsimp only[EC];rw[←hy8,←hy47]);unfold QD;rw[ek,ei];simpa using h52),hs⟩)
    refine Az 16 0 [0] [[oF],[o0,(DN 1 b1 o2 c.Aa),o0,(ov (i6 ((p+1:Nat):Int))),⟨.slc 0 (p+1) false,none⟩,o0,o0]] [BF ((i:Int)<((k - 0:Nat):Int)),Qb z,Dh b1 o2 c.Aa,Wr ((p:Int)+1) (((p+1:Nat):Int)),(0:Int)=((0:Nat):Int),(((p+1:Nat):Int):Int)=((p+1:Nat):Int),0≤p+1,p+1≤c.Aa.cap,c.Aa.cap=0∨(0:Nat)=0] [(1,Ac p),(2,Ac k),(Ei z),(Fv z),(IU p c b1 o2),(Ic p),(94,i6 0)] rfl ⟨bf,rfl,Df ha3,BQ,rfl,rfl,(by omega),(by omega),.inr rfl,Ae⟩ ?_
    refine Di (fun m a w'=>∃ (n58:Nat) (q:Nat),m=p+1 - q∧n43≤n58∧(q≤p+1)∧(∀ a,a<q→Xy c p k a=false)∧St 133 [(1,Ac p),(2,Ac k),(Ei z),(Fv z),(IU p c b1 o2),(Ic p),(94,Ac q)] [] ⟨w,n58,[(Ak w),(J9 z c),(Ny z),(JL z y16)]⟩ a w') (p+1 - 0) ?_ ?_
    ·intro a w' hs;exact⟨n43,0,rfl,Nat.le_refl _,Nat.zero_le _,fun i hi=>absurd hi (Nat.not_lt_zero i),hs⟩
    rintro m a w' ⟨n58,q,rfl,hn57,hkq,hg,hs⟩
    refine(?_:G Tryd.prog 133 [(1,Ac p),(2,Ac k),(Ei z),(Fv z),(IU p c b1 o2),(Ic p),(94,Ac q)] [] ⟨w,n58,[(Ak w),(J9 z c),(Ny z),(JL z y16)]⟩ _ _ _) a w' hs
    clear hs a w'
    have hf0:(List.range k).any (QD c p k)=false:=GL (fun a ha=>hf a (by omega))
    refine Ce ?_
    by_cases h59:(q:Int)<((p+1 - 0:Nat):Int)
    ·refine Az 10 0 [1] [[oT]] [BT ((q:Int)<((p+1 - 0:Nat):Int))] [(1,Ac p),(2,Ac k),(Ei z),(Fv z),(IU p c b1 o2),(Ic p),(94,Ac q),(95,.bool true)] rfl ⟨bt,Ae⟩ ?_
     have hc60:=hc4 q (show q<c.Aa.xs.length by omega)
     have he61:=(hc.Aa).2 q (show q<c.Aa.xs.length by omega)
     obtain⟨y62,hy62⟩:∃ y_,y_=gd c.Aa.xs q:=⟨_,rfl⟩
     rw[←hy62]at he61 hc60
     (try rw[←hy62]at hk hrl hrc)
     refine q_c 8 0 [] [[o0,(oi q),(ol 0 (Ap.arr y62)),o0,o0,(an 8 4)],[o0,(a1 4),o0,o0]] [Ci q,q<p+1 - 0,BN,Fa w b1 (o2+q*8) (Ap.arr y62),Qb n58,Qb n58,Qb n58,Qb n58,Qb n58,Qb n58,Qb n58,Qb n58,Qb n58] [(1,Ac p),(2,Ac k),(Ei z),(Fv z),(10,Ac q),(IU p c b1 o2),(Ic p),(94,Ac q),(Qd y62),(KJ y62),(102,i6 0)] ⟨w,n58+1,(PK z y16 n58 y62 c w)⟩ rfl ⟨rfl,(by omega),rfl,Dt hc60,rfl,rfl,rfl,rfl,rfl,rfl,rfl,rfl,rfl,Ae⟩ ?_
     refine Di (fun m a w'=>∃ (n64:Nat) (n:Nat),m=y62.Af.xs.length - n∧n58+1≤n64∧(n≤y62.Af.xs.length)∧(∀ a,a<n→PR c p k q a=false)∧St 133 [(1,Ac p),(2,Ac k),(Ei z),(Fv z),(10,Ac q),(IU p c b1 o2),(Ic p),(94,Ac q),(Qd y62),(KJ y62),(102,Ac n)] [] ⟨w,n64,(PK z y16 n58 y62 c w)⟩ a w') (y62.Af.xs.length - 0) ?_ ?_
     ·intro a w' hs;exact⟨(n58+1),0,rfl,Nat.le_refl _,Nat.zero_le _,fun i hi=>absurd hi (Nat.not_lt_zero i),hs⟩
     rintro m a w' ⟨n64,n,rfl,hn63,hkn,hh,hs⟩
     refine(?_:G Tryd.prog 133 [(1,Ac p),(2,Ac k),(Ei z),(Fv z),(10,Ac q),(IU p c b1 o2),(Ic p),(94,Ac q),(Qd y62),(KJ y62),(102,Ac n)] [] ⟨w,n64,(PK z y16 n58 y62 c w)⟩ _ _ _) a w' hs
     clear hs a w'
     have hyl:=he61.Af.1.len
     refine Ce ?_
     by_cases h65:(n:Int)<(y62.Af.xs.length:Int)
     ·refine Az 10 0 [1] [[oT]] [BT ((n:Int)<(y62.Af.xs.length:Int))] [(1,Ac p),(2,Ac k),(Ei z),(Fv z),(10,Ac q),(IU p c b1 o2),(Ic p),(94,Ac q),(Qd y62),(KJ y62),(102,Ac n),(103,.bool true)] rfl ⟨bt,Ae⟩ ?_
      obtain⟨b66,o67,ha68,hF70,hc69⟩:=(he61.Af).1.all (show 0<y62.Af.xs.length by omega)
      replace ha68:y62.Af.a=some ⟨b66,o67,none⟩:=ha68
      refine MQ [(1,Ac p),(2,Ac k),(Ei z),(Fv z),(10,Ac q),(IU p c b1 o2),(Ic p),(94,Ac q),(OD y62 b66 o67),(KJ y62),(102,Ac n),(103,.bool true)] (by(try dsimp only[Ny,JL,TB,J9,OD,IU,Qd,OX,KJ,Ic,Ei,Fv,ND,PK]);simp only[ha68]) ?_
      have hc71:=hc69 n (show n<y62.Af.xs.length by omega)
      have he72:=(he61.Af).2 n (show n<y62.Af.xs.length by omega)
      obtain⟨y73,hy73⟩:∃ y_,y_=gd y62.Af.xs n:=⟨_,rfl⟩
      rw[←hy73]at he72 hc71
      have hfy73:(-9223372036854775808:Int)≤y73.Frame∧y73.Frame≤9223372036854775807:=he72.Frame
      refine q_c 4 0 [] [[o0,(oi n),(ol 0 (A8.arr y73)),o0,o0,(an 4 5)]] [Ci n,n<y62.Af.xs.length,BN,Fa w b66 (o67+n*4) (A8.arr y73),Qb n64,Qb n64,Qb n64,Qb n64] [(1,Ac p),(2,Ac k),(Ei z),(Fv z),(10,Ac q),(IU p c b1 o2),(Ic p),(94,Ac q),(OD y62 b66 o67),(KJ y62),(102,Ac n),(13,pt n64),(12,Ac n)] ⟨w,n64+1,[(Ak w),(J9 z c),(Ny z),(JL z y16),(TB n58 y62),(bk n64 (A8.arr y73) 49)]⟩ rfl ⟨rfl,(by omega),rfl,Dt hc71,rfl,rfl,rfl,rfl,Ae⟩ ?_
      by_cases h74:(q:Int)<(p:Int)
      ·refine Az 1 17 [] [[o0,o0,oT,o0,o0,o0,o0,(a1 3),o0,(a1 3),o0,(a1 5),o0,(a1 5)]] [BT ((q:Int)<(p:Int)),Qb (z+2),Qb (z+2),Qb n64,Qb n64] [(1,Ac p),(2,Ac k),(Ei z),(Fv z),(10,Ac q),(IU p c b1 o2),(Ic p),(94,Ac q),(OD y62 b66 o67),(KJ y62),(102,Ac n),(115,.bool true),(117,i6 y16.Frame),(119,i6 y16.AV),(121,i6 y73.Frame),(123,i6 y73.AV)] rfl ⟨bt,rfl,rfl,rfl,rfl,Ae⟩ ?_
       have hm76:=hb q n (by omega) (by rw[←hy62];omega) (by omega);dsimp only[EC]at hm76;rw[←hy62,←hy73]at hm76;unfold Bd at hm76
       refine Bf 73 #[i6 y16.Frame,i6 y16.AV,i6 y73.Frame,i6 y73.AV] (some 124) (.bool (meet y16.Frame y16.AV y73.Frame y73.AV)) (fun w75 hw75=>TQ w75 y16.Frame y16.AV y73.Frame y73.AV (by omega) (by omega) (by omega) (by omega)) (fun n77 (hn78:n64+1≤n77) => ?_)
       refine BP 2 0 [] [[o0]] [] [(1,Ac p),(2,Ac k),(Ei z),(Fv z),(10,Ac q),(IU p c b1 o2),(Ic p),(94,Ac q),(OD y62 b66 o67),(KJ y62),(102,Ac n),(125,.bool (meet y16.Frame y16.AV y73.Frame y73.AV))] rfl Ae ?_
       by_cases h79:(meet y16.Frame y16.AV y73.Frame y73.AV)=true
       ·refine Az 3 2 [3] [[o0,o0]] [Value.bool (meet y16.Frame y16.AV y73.Frame y73.AV)=Value.bool true] [(Ei z),(126,Ac p),(127,Ac k)] rfl ⟨(congrArg Value.bool h79),Ae⟩ ?_
        refine Bf 70 #[(Ac p),Ac k] (some 128) (.agg #[(Ac p),Ac k]) (fun w80 hw80=>GX w80 (p:Int) (k:Int)) (fun n81 (hn82:n77≤n81) => ?_)
        refine EY 3 0 [] [[o0,(an 3 2)]] [Qb (z+1),Qb (z+1),Qb (z+1)] [(Ei z)] ⟨w,n81,[(Ak w),(J9 z c),(bk (z+1) #[i6 411,Ac p,Ac k] 73),(JL z y16),(TB n58 y62),(bk n64 (A8.arr y73) 49)]⟩ rfl ⟨rfl,rfl,rfl,Ae⟩ ?_
        refine AA [.at 2,.at 2,.at 2] [Qb (z+1),Qb (z+1),Qb (z+1)] (.agg #[i6 411,Ac p,Ac k]) ⟨rfl,rfl,rfl,Ae⟩ ?_
        intro w83 hw83
        refine⟨congrArg Ending.returned (?_:Value.agg #[i6 411,Ac p,Ac k] = .agg (Ar.arr (ES c p k))),AO hw83⟩
        have hq:ES c p k=_:=ZT hbb hf0 (range_any (k:=q) (by omega) (range_any (k:=n) (by dsimp only[EQ];rw[←hy62];omega) (by have ek:EC c p k=y16:=(by dsimp only[EC];rw[←hy8,←hy16]);have en:EC c q n=y73:=(by dsimp only[EC];rw[←hy62,←hy73]);unfold PR;rw[ek,en,h79];simp;omega)))
        exact(congrArg (fun t=>Value.agg (Ar.arr t)) hq).symm
       refine Az 6 0 [2] [[(ov (i6 ((n+1:Nat):Int))),o0]] [Value.bool (meet y16.Frame y16.AV y73.Frame y73.AV)=Value.bool false,Wr ((n:Int)+1) (((n+1:Nat):Int))] [(1,Ac p),(2,Ac k),(Ei z),(Fv z),(10,Ac q),(IU p c b1 o2),(Ic p),(94,Ac q),(OD y62 b66 o67),(KJ y62),(Qs n)] rfl ⟨(congrArg Value.bool (Bool.eq_false_iff.2 h79)),BQ,Ae⟩ ?_
       refine Cb [0,1,2,3,4] (PK z y16 n58 y62 c w) rfl rfl ?_
       refine H5 [1,2,6,7,10,92,93,94,100,101,102] [(1,Ac p),(2,Ac k),(Ei z),(Fv z),(10,Ac q),(IU p c b1 o2),(Ic p),(94,Ac q),(Qd y62),(KJ y62),(Qs n)] (by(try dsimp only[Ny,JL,TB,J9,OD,IU,Qd,OX,KJ,Ic,Qs,Ei,Fv,ND,PK]);simp only[ha68];rfl) ?_
       refine BD (fun a w' hs=>⟨y62.Af.xs.length - (n+1),by omega,n77,(n+1),rfl,by omega,by omega,Fh hh (by have ek:EC c p k=y16:=(by dsimp only[EC];rw[←hy8,←hy16]);have en:EC c q n=y73:=(by dsimp only[EC];rw[←hy62,←hy73]);unfold PR;rw[ek,en];simp[h79] <;> omega),hs⟩)
      by_cases h84:(n:Int)<(k:Int)
      ·refine Az 1 17 [] [[o0,o0,oF,o0,o0,o0,oT,o0,o0,o0,(a1 3),o0,(a1 3),o0,(a1 5),o0,(a1 5)]] [BF ((q:Int)<(p:Int)),BT ((n:Int)<(k:Int)),Qb (z+2),Qb (z+2),Qb n64,Qb n64] [(1,Ac p),(2,Ac k),(Ei z),(Fv z),(10,Ac q),(IU p c b1 o2),(Ic p),(94,Ac q),(OD y62 b66 o67),(KJ y62),(102,Ac n),(115,.bool true),(117,i6 y16.Frame),(119,i6 y16.AV),(121,i6 y73.Frame),(123,i6 y73.AV)] rfl ⟨bf,bt,rfl,rfl,rfl,rfl,Ae⟩ ?_
       have hm86:=hb q n (by omega) (by rw[←hy62];omega) (by omega);dsimp only[EC]at hm86;rw[←hy62,←hy73]at hm86;unfold Bd at hm86
       refine Bf 73 #[i6 y16.Frame,i6 y16.AV,i6 y73.Frame,i6 y73.AV] (some 124) (.bool (meet y16.Frame y16.AV y73.Frame y73.AV)) (fun w85 hw85=>TQ w85 y16.Frame y16.AV y73.Frame y73.AV (by omega) (by omega) (by omega) (by omega)) (fun n87 (hn88:n64+1≤n87) => ?_)
       refine BP 2 0 [] [[o0]] [] [(1,Ac p),(2,Ac k),(Ei z),(Fv z),(10,Ac q),(IU p c b1 o2),(Ic p),(94,Ac q),(OD y62 b66 o67),(KJ y62),(102,Ac n),(125,.bool (meet y16.Frame y16.AV y73.Frame y73.AV))] rfl Ae ?_
       by_cases h89:(meet y16.Frame y16.AV y73.Frame y73.AV)=true
       ·refine Az 3 2 [3] [[o0,o0]] [Value.bool (meet y16.Frame y16.AV y73.Frame y73.AV)=Value.bool true] [(Ei z),(126,Ac p),(127,Ac k)] rfl ⟨(congrArg Value.bool h89),Ae⟩ ?_
        refine Bf 70 #[(Ac p),Ac k] (some 128) (.agg #[(Ac p),Ac k]) (fun w90 hw90=>GX w90 (p:Int) (k:Int)) (fun n91 (hn92:n87≤n91) => ?_)
        refine EY 3 0 [] [[o0,(an 3 2)]] [Qb (z+1),Qb (z+1),Qb (z+1)] [(Ei z)] ⟨w,n91,[(Ak w),(J9 z c),(bk (z+1) #[i6 411,Ac p,Ac k] 73),(JL z y16),(TB n58 y62),(bk n64 (A8.arr y73) 49)]⟩ rfl ⟨rfl,rfl,rfl,Ae⟩ ?_
        refine AA [.at 2,.at 2,.at 2] [Qb (z+1),Qb (z+1),Qb (z+1)] (.agg #[i6 411,Ac p,Ac k]) ⟨rfl,rfl,rfl,Ae⟩ ?_
        intro w93 hw93
        refine⟨congrArg Ending.returned (?_:Value.agg #[i6 411,Ac p,Ac k] = .agg (Ar.arr (ES c p k))),AO hw93⟩
        have hq:ES c p k=_:=ZT hbb hf0 (range_any (k:=q) (by omega) (range_any (k:=n) (by dsimp only[EQ];rw[←hy62];omega) (by have ek:EC c p k=y16:=(by dsimp only[EC];rw[←hy8,←hy16]);have en:EC c q n=y73:=(by dsimp only[EC];rw[←hy62,←hy73]);unfold PR;rw[ek,en,h89];simp;omega)))
        exact(congrArg (fun t=>Value.agg (Ar.arr t)) hq).symm
       refine Az 6 0 [2] [[(ov (i6 ((n+1:Nat):Int))),o0]] [Value.bool (meet y16.Frame y16.AV y73.Frame y73.AV)=Value.bool false,Wr ((n:Int)+1) (((n+1:Nat):Int))] [(1,Ac p),(2,Ac k),(Ei z),(Fv z),(10,Ac q),(IU p c b1 o2),(Ic p),(94,Ac q),(OD y62 b66 o67),(KJ y62),(Qs n)] rfl ⟨(congrArg Value.bool (Bool.eq_false_iff.2 h89)),BQ,Ae⟩ ?_
       refine Cb [0,1,2,3,4] (PK z y16 n58 y62 c w) rfl rfl ?_
       refine H5 [1,2,6,7,10,92,93,94,100,101,102] [(1,Ac p),(2,Ac k),(Ei z),(Fv z),(10,Ac q),(IU p c b1 o2),(Ic p),(94,Ac q),(Qd y62),(KJ y62),(Qs n)] (by(try dsimp only[Ny,JL,TB,J9,OD,IU,Qd,OX,KJ,Ic,Qs,Ei,Fv,ND,PK]);simp only[ha68];rfl) ?_
       refine BD (fun a w' hs=>⟨y62.Af.xs.length - (n+1),by omega,n87,(n+1),rfl,by omega,by omega,Fh hh (by have ek:EC c p k=y16:=(by dsimp only[EC];rw[←hy8,←hy16]);have en:EC c q n=y73:=(by dsimp only[EC];rw[←hy62,←hy73]);unfold PR;rw[ek,en];simp[h89] <;> omega),hs⟩)
      refine Az 9 0 [0] [[o0,o0,oF,o0,o0,o0,oF,o0,o0,o0],[(ov (i6 ((n+1:Nat):Int))),o0]] [BF ((q:Int)<(p:Int)),BF ((n:Int)<(k:Int)),Wr ((n:Int)+1) (((n+1:Nat):Int))] [(1,Ac p),(2,Ac k),(Ei z),(Fv z),(10,Ac q),(IU p c b1 o2),(Ic p),(94,Ac q),(OD y62 b66 o67),(KJ y62),(Qs n)] rfl ⟨bf,bf,BQ,Ae⟩ ?_
      refine Cb [0,1,2,3,4] (PK z y16 n58 y62 c w) rfl rfl ?_
      refine H5 [1,2,6,7,10,92,93,94,100,101,102] [(1,Ac p),(2,Ac k),(Ei z),(Fv z),(10,Ac q),(IU p c b1 o2),(Ic p),(94,Ac q),(Qd y62),(KJ y62),(Qs n)] (by(try dsimp only[Ny,JL,TB,J9,OD,IU,Qd,OX,KJ,Ic,Qs,Ei,Fv,ND,PK]);simp only[ha68];rfl) ?_
      refine BD (fun a w' hs=>⟨y62.Af.xs.length - (n+1),by omega,(n64+1),(n+1),rfl,by omega,by omega,Fh hh (by have ek:EC c p k=y16:=(by dsimp only[EC];rw[←hy8,←hy16]);have en:EC c q n=y73:=(by dsimp only[EC];rw[←hy62,←hy73]);unfold PR;rw[ek,en];simp <;> omega),hs⟩)
     refine Az 13 0 [0] [[oF],[(ov (i6 ((q+1:Nat):Int))),o0]] [BF ((n:Int)<(y62.Af.xs.length:Int)),Wr ((q:Int)+1) (((q+1:Nat):Int))] [(1,Ac p),(2,Ac k),(Ei z),(Fv z),(IU p c b1 o2),(Ic p),(94,i6 ((q+1:Nat):Int))] rfl ⟨bf,BQ,Ae⟩ ?_
     refine Cb [0,1,2,3] [(Ak w),(J9 z c),(Ny z),(JL z y16)] rfl rfl ?_
     refine BK [1,2,6,7,92,93,94] [(1,Ac p),(2,Ac k),(Ei z),(Fv z),(IU p c b1 o2),(Ic p),(94,i6 ((q+1:Nat):Int))] ?_
     refine BD (fun a w' hs=>⟨p+1 - (q+1),by omega,n64,(q+1),rfl,by omega,by omega,Fh hg (GL (fun i hi=>hh i (by dsimp only[EQ]at hi;rw[←hy62]at hi;omega))),hs⟩)
    refine Az 15 0 [0] [[oF],[(oa [.via 0 (i6 0),.via 0 (i6 0),.via 0 (i6 0)]),(an 3 2)]] [BF ((q:Int)<((p+1 - 0:Nat):Int)),Old w 0 0 (i6 0),Old w 0 1 (i6 0),Old w 0 2 (i6 0),Qb (z+1),Qb (z+1),Qb (z+1)] [(Ei z)] rfl ⟨bf,A7 (hL.2 0 _ rfl),A7 (hL.2 1 _ rfl),A7 (hL.2 2 _ rfl),rfl,rfl,rfl,Ae⟩ ?_
    refine AA [.at 2,.at 2,.at 2] [Qb (z+1),Qb (z+1),Qb (z+1)] (.agg #[i6 0,i6 0,i6 0]) ⟨rfl,rfl,rfl,Ae⟩ ?_
    intro w94 hw94
    refine⟨congrArg Ending.returned (?_:Value.agg #[i6 0,i6 0,i6 0] = .agg (Ar.arr (ES c p k))),AO hw94⟩
    have hq:ES c p k=_:=regQ_d hbb hf0 (GL (fun i hi=>hg i (by omega)))
    exact(congrArg (fun t=>Value.agg (Ar.arr t)) hq).symm
   have hd95:=FQ h40
   refine BP 5 2 [1] [[(ov (.bool true)),o0],[o0,o0]] [Value.bool (!(win y16.GM 1 7))=Value.bool true] [(Ei z),(57,Ac p),(58,Ac k)] rfl ⟨by simp[h40],Ae⟩ ?_
   refine Bf 70 #[(Ac p),Ac k] (some 59) (.agg #[(Ac p),Ac k]) (fun w96 hw96=>GX w96 (p:Int) (k:Int)) (fun n97 (hn98:n38≤n97) => ?_)
   refine EY 3 0 [] [[o0,(an 3 2)]] [Qb (z+1),Qb (z+1),Qb (z+1)] [(Ei z)] ⟨w,n97,[(Ak w),(J9 z c),(XG z p k),(JL z y16)]⟩ rfl ⟨rfl,rfl,rfl,Ae⟩ ?_
   refine AA [.at 2,.at 2,.at 2] [Qb (z+1),Qb (z+1),Qb (z+1)] (.agg #[i6 409,Ac p,Ac k]) ⟨rfl,rfl,rfl,Ae⟩ ?_
   intro w99 hw99
   refine⟨congrArg Ending.returned (?_:Value.agg #[i6 409,Ac p,Ac k] = .agg (Ar.arr (ES c p k))),AO hw99⟩
   have hq:ES c p k=_:=UX (by have ek:EC c p k=y16:=(by dsimp only[EC];rw[←hy8,←hy16]);rw[ek];unfold Kr win;simp;omega)
   exact(congrArg (fun t=>Value.agg (Ar.arr t)) hq).symm
  have hd100:=FQ h25
  refine BP 5 2 [1] [[(ov (.bool true)),o0,o0,o0,o0,o0,o0,o0],[o0,o0]] [Value.bool (!(win y16.AV 1 (256 - y16.Bj)))=Value.bool true] [(Ei z),(57,Ac p),(58,Ac k)] rfl ⟨by simp[h25],Ae⟩ ?_
  refine Bf 70 #[(Ac p),Ac k] (some 59) (.agg #[(Ac p),Ac k]) (fun w101 hw101=>GX w101 (p:Int) (k:Int)) (fun n102 (hn103:n23≤n102) => ?_)
  refine EY 3 0 [] [[o0,(an 3 2)]] [Qb (z+1),Qb (z+1),Qb (z+1)] [(Ei z)] ⟨w,n102,[(Ak w),(J9 z c),(XG z p k),(JL z y16)]⟩ rfl ⟨rfl,rfl,rfl,Ae⟩ ?_
  refine AA [.at 2,.at 2,.at 2] [Qb (z+1),Qb (z+1),Qb (z+1)] (.agg #[i6 409,Ac p,Ac k]) ⟨rfl,rfl,rfl,Ae⟩ ?_
  intro w104 hw104
  refine⟨congrArg Ending.returned (?_:Value.agg #[i6 409,Ac p,Ac k] = .agg (Ar.arr (ES c p k))),AO hw104⟩
  have hq:ES c p k=_:=UX (by have ek:EC c p k=y16:=(by dsimp only[EC];rw[←hy8,←hy16]);rw[ek];unfold Kr win;simp;omega)
  exact(congrArg (fun t=>Value.agg (Ar.arr t)) hq).symm
 have hd105:=FQ h20
 refine BP 5 2 [1] [[(ov (.bool true)),o0,o0,o0,o0,o0,o0,o0,o0],[o0,o0]] [Value.bool (!(win y16.Bj 0 255))=Value.bool true] [(Ei z),(57,Ac p),(58,Ac k)] rfl ⟨by simp[h20],Ae⟩ ?_
 refine Bf 70 #[(Ac p),Ac k] (some 59) (.agg #[(Ac p),Ac k]) (fun w106 hw106=>GX w106 (p:Int) (k:Int)) (fun n107 (hn108:n18≤n107) => ?_)
 refine EY 3 0 [] [[o0,(an 3 2)]] [Qb (z+1),Qb (z+1),Qb (z+1)] [(Ei z)] ⟨w,n107,[(Ak w),(J9 z c),(XG z p k),(JL z y16)]⟩ rfl ⟨rfl,rfl,rfl,Ae⟩ ?_
 refine AA [.at 2,.at 2,.at 2] [Qb (z+1),Qb (z+1),Qb (z+1)] (.agg #[i6 409,Ac p,Ac k]) ⟨rfl,rfl,rfl,Ae⟩ ?_
 intro w109 hw109
 refine⟨congrArg Ending.returned (?_:Value.agg #[i6 409,Ac p,Ac k] = .agg (Ar.arr (ES c p k))),AO hw109⟩
 have hq:ES c p k=_:=UX (by have ek:EC c p k=y16:=(by dsimp only[EC];rw[←hy8,←hy16]);rw[ek];unfold Kr win;simp;omega)
 exact(congrArg (fun t=>Value.agg (Ar.arr t)) hq).symm
def FZ(o:Ar)(f:Nat→Ar)(n:Nat):Ar:=Bc (o :: (List.range n).map f)
theorem Za4{a b:List Ar}:Bc (a++b)=if Bc a=Bg then Bc b else Bc a:=by
 induction a with
 | nil=>rw[List.nil_append,if_pos (show Bc []=Bg from rfl)]
 | cons x r ih =>
  show(if x=Bg then Bc (r++b)else x)=if(if x=Bg then Bc r else x)=Bg then Bc b else(if x=Bg then Bc r else x)
  by_cases h:x=Bg
  ·rw[if_pos h,if_pos h];exact ih
  rw[if_neg h,if_neg h,if_neg h]
theorem Zdw(x:Ar):Bc [x]=x:=by
 unfold Bc
 by_cases h:x=Bg
 ·rw[if_pos h,h];rfl
 rw[if_neg h]
theorem MR(o:Ar)(f:Nat→Ar):FZ o f 0=o:=Zdw o
theorem Qp{o:Ar}{f:Nat→Ar}{n:Nat}(h:FZ o f n=Bg):FZ o f (n+1)=f n:=by
 unfold FZ at h ⊢
 rw[List.range_succ,List.map_append,←List.cons_append,Za4,if_pos h]
 exact Zdw _
theorem L8{o:Ar}{f:Nat→Ar}{k:Nat}(h:FZ o f k≠Bg):∀ {n:Nat},k≤n→FZ o f n=FZ o f k
 | 0,hn=>by rw[Nat.le_zero.1 hn]
 | n+1,hn=>by
  by_cases e:k=n+1
  ·rw[e]
  have ih:=L8 h (n:=n) (by omega)
  have h2:FZ o f n≠Bg:=by rw[ih];exact h
  unfold FZ at h2 ih ⊢
  rw[List.range_succ,List.map_append,←List.cons_append,Za4,if_neg h2]
  exact ih
theorem Vo{o:Ar}{f:Nat→Ar}{n:Nat}(h:FZ o f n=Bg):o=Bg∧∀ i,i<n→f i=Bg:=by
 constructor
 ·by_cases e:o=Bg
  ·exact e
  have h1:=L8 (f:=f) (k:=0) (by rw[MR];exact e) (Nat.zero_le n)
  rw[MR,h]at h1;exact h1.symm
 intro i hi
 by_cases e1:FZ o f i=Bg
 ·by_cases e2:f i=Bg
  ·exact e2
  have h3:=Qp e1
  have h4:=L8 (k:=i+1) (by rw[h3];exact e2) (show i+1≤n by omega)
  rw[h,h3]at h4;exact h4.symm
 have h4:=L8 e1 (show i≤n by omega)
 rw[h]at h4;exact absurd h4.symm e1
def G6(c:Aj)(p:Nat):List Ar:=[Ah (AX c p) 405 ⟨(p:Int), -1⟩,Ah (win (EQ c p).DK 0 2&&win (EQ c p).AY 0 15) 406 ⟨(p:Int), -1⟩,Ah (win (EQ c p).DI 0 16&&win (EQ c p).Bi 0 16) 407 ⟨(p:Int), -1⟩,Ah (win ((EQ c p).Af.xs.length:Nat) 1 8) 408 ⟨(p:Int), -1⟩]
def IP(c:Aj)(p:Nat):Ar:=FZ (Bc (G6 c p)) (ES c p) (EQ c p).Af.xs.length
def H9(c:Aj)(p:Nat):List Ar:=[Ah (win (EQ c p).Entry 0 4095&&GK (EQ c p)) 412 ⟨(p:Int), -1⟩,Ah (decide ((EQ c p).Am.xs.length≤8)) 413 ⟨(p:Int), -1⟩]
def J8(c:Aj)(p k:Nat):Ar:=Ah (win (Xe c p k).Channel 0 ((c.Ag.xs.length:Nat) - 1)) 414 ⟨(p:Int),(k:Int)⟩
def CX(c:Aj)(p:Nat):Ar:=if IP c p=Bg then FZ (Bc (H9 c p)) (J8 c p) (EQ c p).Am.xs.length else IP c p
theorem UI{b:Bool}{e:Int}{w:LU}(he:e≠0):Ah b e w=Bg↔b=true:=by
 unfold Ah Bg
 cases b
 ·simp[he]
 simp
theorem TZ{c:Aj}{p:Nat}(h:CX c p=Bg):IP c p=Bg:=by
 unfold CX at h
 by_cases hb:IP c p=Bg
 ·exact hb
 rw[if_neg hb]at h;exact absurd h hb
theorem U7{c:Aj}{p:Nat}(hF:c.Frames≤1024)(h:IP c p=Bg):∀ n,n<(EQ c p).Af.xs.length→Bd (EC c p n):=fun n hn=>Yv hF (XI ((Vo h).2 n hn))
theorem bd_all{c:Aj}{p k:Nat}(hF:1≤c.Frames∧c.Frames≤1024)(hpf:∀ q,q<p→CX c q=Bg)(hk:∀ i,i<k→ES c p i=Bg):∀ q n,q≤p→n<(gd c.Aa.xs q).Af.xs.length→(q<p∨n<k)→Bd (EC c q n):=fun q n hq hn h=>by
 by_cases e:q<p
 ·exact U7 hF.2 (TZ (hpf q e)) n hn
 have e2:q=p:=by omega
 subst e2
 exact Yv hF.2 (XI (hk n (by omega)))
section
variable (n35:Nat)(c:Aj)(p:Nat)(y8:Ap)(b43 n32:Nat)(n78 b86:Nat)(n75 n123:Nat)(b131 n120:Nat)(n165 b173:Nat)(n162 n209:Nat)(n220 n232:Nat)(n242 b36:Nat)(b42 b17:Nat)(b79 b85:Nat)(b61 b124:Nat)(b130 b106:Nat)(b166 b172:Nat)(b149 b6:Nat)(k z:Nat)(w:World)(y260:Bh)
abbrev Lh:=bk n35 #[i6 ((Ah (AX c p) 405 ⟨(p:Int), -1⟩).e),i6 ((Ah (AX c p) 405 ⟨(p:Int), -1⟩).Ai.First),i6 ((Ah (AX c p) 405 ⟨(p:Int), -1⟩).Ai.Second),i6 ((Ah (win y8.AY 0 15) 406 ⟨(p:Int), -1⟩).e),i6 ((Ah (win y8.AY 0 15) 406 ⟨(p:Int), -1⟩).Ai.First),i6 ((Ah (win y8.AY 0 15) 406 ⟨(p:Int), -1⟩).Ai.Second),i6 ((Ah (win y8.Bi 0 16) 407 ⟨(p:Int), -1⟩).e),i6 ((Ah (win y8.Bi 0 16) 407 ⟨(p:Int), -1⟩).Ai.First),i6 ((Ah (win y8.Bi 0 16) 407 ⟨(p:Int), -1⟩).Ai.Second),i6 ((Ah (win (y8.Af.xs.length:Int) 1 8) 408 ⟨(p:Int), -1⟩).e),i6 ((Ah (win (y8.Af.xs.length:Int) 1 8) 408 ⟨(p:Int), -1⟩).Ai.First),i6 ((Ah (win (y8.Af.xs.length:Int) 1 8) 408 ⟨(p:Int), -1⟩).Ai.Second)] 73
abbrev Lr:=bk b43 #[i6 ((Ah (AX c p) 405 ⟨(p:Int), -1⟩).e),i6 ((Ah (AX c p) 405 ⟨(p:Int), -1⟩).Ai.First),i6 ((Ah (AX c p) 405 ⟨(p:Int), -1⟩).Ai.Second),i6 ((Ah (win y8.AY 0 15) 406 ⟨(p:Int), -1⟩).e),i6 ((Ah (win y8.AY 0 15) 406 ⟨(p:Int), -1⟩).Ai.First),i6 ((Ah (win y8.AY 0 15) 406 ⟨(p:Int), -1⟩).Ai.Second),i6 ((Ah (win y8.Bi 0 16) 407 ⟨(p:Int), -1⟩).e),i6 ((Ah (win y8.Bi 0 16) 407 ⟨(p:Int), -1⟩).Ai.First),i6 ((Ah (win y8.Bi 0 16) 407 ⟨(p:Int), -1⟩).Ai.Second),i6 ((Ah (win (y8.Af.xs.length:Int) 1 8) 408 ⟨(p:Int), -1⟩).e),i6 ((Ah (win (y8.Af.xs.length:Int) 1 8) 408 ⟨(p:Int), -1⟩).Ai.First),i6 ((Ah (win (y8.Af.xs.length:Int) 1 8) 408 ⟨(p:Int), -1⟩).Ai.Second)] 73
abbrev Pm:=bk n32 #[i6 ((Ah (AX c p) 405 ⟨(p:Int), -1⟩).e),i6 ((Ah (AX c p) 405 ⟨(p:Int), -1⟩).Ai.First),i6 ((Ah (AX c p) 405 ⟨(p:Int), -1⟩).Ai.Second),i6 ((Ah (win y8.AY 0 15) 406 ⟨(p:Int), -1⟩).e),i6 ((Ah (win y8.AY 0 15) 406 ⟨(p:Int), -1⟩).Ai.First),i6 ((Ah (win y8.AY 0 15) 406 ⟨(p:Int), -1⟩).Ai.Second),i6 ((Ah (win y8.Bi 0 16) 407 ⟨(p:Int), -1⟩).e),i6 ((Ah (win y8.Bi 0 16) 407 ⟨(p:Int), -1⟩).Ai.First),i6 ((Ah (win y8.Bi 0 16) 407 ⟨(p:Int), -1⟩).Ai.Second),i6 ((Ah (win (y8.Af.xs.length:Int) 1 8) 408 ⟨(p:Int), -1⟩).e),i6 ((Ah (win (y8.Af.xs.length:Int) 1 8) 408 ⟨(p:Int), -1⟩).Ai.First),i6 ((Ah (win (y8.Af.xs.length:Int) 1 8) 408 ⟨(p:Int), -1⟩).Ai.Second)] 73
abbrev NW:=bk n78 #[i6 ((Ah (AX c p) 405 ⟨(p:Int), -1⟩).e),i6 ((Ah (AX c p) 405 ⟨(p:Int), -1⟩).Ai.First),i6 ((Ah (AX c p) 405 ⟨(p:Int), -1⟩).Ai.Second),i6 ((Ah (win y8.AY 0 15) 406 ⟨(p:Int), -1⟩).e),i6 ((Ah (win y8.AY 0 15) 406 ⟨(p:Int), -1⟩).Ai.First),i6 ((Ah (win y8.AY 0 15) 406 ⟨(p:Int), -1⟩).Ai.Second),i6 ((Ah false 407 ⟨(p:Int), -1⟩).e),i6 ((Ah false 407 ⟨(p:Int), -1⟩).Ai.First),i6 ((Ah false 407 ⟨(p:Int), -1⟩).Ai.Second),i6 ((Ah (win (y8.Af.xs.length:Int) 1 8) 408 ⟨(p:Int), -1⟩).e),i6 ((Ah (win (y8.Af.xs.length:Int) 1 8) 408 ⟨(p:Int), -1⟩).Ai.First),i6 ((Ah (win (y8.Af.xs.length:Int) 1 8) 408 ⟨(p:Int), -1⟩).Ai.Second)] 73
abbrev Pj:=bk b86 #[i6 ((Ah (AX c p) 405 ⟨(p:Int), -1⟩).e),i6 ((Ah (AX c p) 405 ⟨(p:Int), -1⟩).Ai.First),i6 ((Ah (AX c p) 405 ⟨(p:Int), -1⟩).Ai.Second),i6 ((Ah (win y8.AY 0 15) 406 ⟨(p:Int), -1⟩).e),i6 ((Ah (win y8.AY 0 15) 406 ⟨(p:Int), -1⟩).Ai.First),i6 ((Ah (win y8.AY 0 15) 406 ⟨(p:Int), -1⟩).Ai.Second),i6 ((Ah false 407 ⟨(p:Int), -1⟩).e),i6 ((Ah false 407 ⟨(p:Int), -1⟩).Ai.First),i6 ((Ah false 407 ⟨(p:Int), -1⟩).Ai.Second),i6 ((Ah (win (y8.Af.xs.length:Int) 1 8) 408 ⟨(p:Int), -1⟩).e),i6 ((Ah (win (y8.Af.xs.length:Int) 1 8) 408 ⟨(p:Int), -1⟩).Ai.First),i6 ((Ah (win (y8.Af.xs.length:Int) 1 8) 408 ⟨(p:Int), -1⟩).Ai.Second)] 73
abbrev Lm:=bk n75 #[i6 ((Ah (AX c p) 405 ⟨(p:Int), -1⟩).e),i6 ((Ah (AX c p) 405 ⟨(p:Int), -1⟩).Ai.First),i6 ((Ah (AX c p) 405 ⟨(p:Int), -1⟩).Ai.Second),i6 ((Ah (win y8.AY 0 15) 406 ⟨(p:Int), -1⟩).e),i6 ((Ah (win y8.AY 0 15) 406 ⟨(p:Int), -1⟩).Ai.First),i6 ((Ah (win y8.AY 0 15) 406 ⟨(p:Int), -1⟩).Ai.Second),i6 ((Ah false 407 ⟨(p:Int), -1⟩).e),i6 ((Ah false 407 ⟨(p:Int), -1⟩).Ai.First),i6 ((Ah false 407 ⟨(p:Int), -1⟩).Ai.Second),i6 ((Ah (win (y8.Af.xs.length:Int) 1 8) 408 ⟨(p:Int), -1⟩).e),i6 ((Ah (win (y8.Af.xs.length:Int) 1 8) 408 ⟨(p:Int), -1⟩).Ai.First),i6 ((Ah (win (y8.Af.xs.length:Int) 1 8) 408 ⟨(p:Int), -1⟩).Ai.Second)] 73
abbrev Nl:=bk n123 #[i6 ((Ah (AX c p) 405 ⟨(p:Int), -1⟩).e),i6 ((Ah (AX c p) 405 ⟨(p:Int), -1⟩).Ai.First),i6 ((Ah (AX c p) 405 ⟨(p:Int), -1⟩).Ai.Second),i6 ((Ah false 406 ⟨(p:Int), -1⟩).e),i6 ((Ah false 406 ⟨(p:Int), -1⟩).Ai.First),i6 ((Ah false 406 ⟨(p:Int), -1⟩).Ai.Second),i6 ((Ah (win y8.Bi 0 16) 407 ⟨(p:Int), -1⟩).e),i6 ((Ah (win y8.Bi 0 16) 407 ⟨(p:Int), -1⟩).Ai.First),i6 ((Ah (win y8.Bi 0 16) 407 ⟨(p:Int), -1⟩).Ai.Second),i6 ((Ah (win (y8.Af.xs.length:Int) 1 8) 408 ⟨(p:Int), -1⟩).e),i6 ((Ah (win (y8.Af.xs.length:Int) 1 8) 408 ⟨(p:Int), -1⟩).Ai.First),i6 ((Ah (win (y8.Af.xs.length:Int) 1 8) 408 ⟨(p:Int), -1⟩).Ai.Second)] 73
abbrev Ls:=bk b131 #[i6 ((Ah (AX c p) 405 ⟨(p:Int), -1⟩).e),i6 ((Ah (AX c p) 405 ⟨(p:Int), -1⟩).Ai.First),i6 ((Ah (AX c p) 405 ⟨(p:Int), -1⟩).Ai.Second),i6 ((Ah false 406 ⟨(p:Int), -1⟩).e),i6 ((Ah false 406 ⟨(p:Int), -1⟩).Ai.First),i6 ((Ah false 406 ⟨(p:Int), -1⟩).Ai.Second),i6 ((Ah (win y8.Bi 0 16) 407 ⟨(p:Int), -1⟩).e),i6 ((Ah (win y8.Bi 0 16) 407 ⟨(p:Int), -1⟩).Ai.First),i6 ((Ah (win y8.Bi 0 16) 407 ⟨(p:Int), -1⟩).Ai.Second),i6 ((Ah (win (y8.Af.xs.length:Int) 1 8) 408 ⟨(p:Int), -1⟩).e),i6 ((Ah (win (y8.Af.xs.length:Int) 1 8) 408 ⟨(p:Int), -1⟩).Ai.First),i6 ((Ah (win (y8.Af.xs.length:Int) 1 8) 408 ⟨(p:Int), -1⟩).Ai.Second)] 73
abbrev XN:=bk n120 #[i6 ((Ah (AX c p) 405 ⟨(p:Int), -1⟩).e),i6 ((Ah (AX c p) 405 ⟨(p:Int), -1⟩).Ai.First),i6 ((Ah (AX c p) 405 ⟨(p:Int), -1⟩).Ai.Second),i6 ((Ah false 406 ⟨(p:Int), -1⟩).e),i6 ((Ah false 406 ⟨(p:Int), -1⟩).Ai.First),i6 ((Ah false 406 ⟨(p:Int), -1⟩).Ai.Second),i6 ((Ah (win y8.Bi 0 16) 407 ⟨(p:Int), -1⟩).e),i6 ((Ah (win y8.Bi 0 16) 407 ⟨(p:Int), -1⟩).Ai.First),i6 ((Ah (win y8.Bi 0 16) 407 ⟨(p:Int), -1⟩).Ai.Second),i6 ((Ah (win (y8.Af.xs.length:Int) 1 8) 408 ⟨(p:Int), -1⟩).e),i6 ((Ah (win (y8.Af.xs.length:Int) 1 8) 408 ⟨(p:Int), -1⟩).Ai.First),i6 ((Ah (win (y8.Af.xs.length:Int) 1 8) 408 ⟨(p:Int), -1⟩).Ai.Second)] 73
abbrev Zq:=bk n165 #[i6 ((Ah (AX c p) 405 ⟨(p:Int), -1⟩).e),i6 ((Ah (AX c p) 405 ⟨(p:Int), -1⟩).Ai.First),i6 ((Ah (AX c p) 405 ⟨(p:Int), -1⟩).Ai.Second),i6 ((Ah false 406 ⟨(p:Int), -1⟩).e),i6 ((Ah false 406 ⟨(p:Int), -1⟩).Ai.First),i6 ((Ah false 406 ⟨(p:Int), -1⟩).Ai.Second),i6 ((Ah false 407 ⟨(p:Int), -1⟩).e),i6 ((Ah false 407 ⟨(p:Int), -1⟩).Ai.First),i6 ((Ah false 407 ⟨(p:Int), -1⟩).Ai.Second),i6 ((Ah (win (y8.Af.xs.length:Int) 1 8) 408 ⟨(p:Int), -1⟩).e),i6 ((Ah (win (y8.Af.xs.length:Int) 1 8) 408 ⟨(p:Int), -1⟩).Ai.First),i6 ((Ah (win (y8.Af.xs.length:Int) 1 8) 408 ⟨(p:Int), -1⟩).Ai.Second)] 73
abbrev Yg:=bk b173 #[i6 ((Ah (AX c p) 405 ⟨(p:Int), -1⟩).e),i6 ((Ah (AX c p) 405 ⟨(p:Int), -1⟩).Ai.First),i6 ((Ah (AX c p) 405 ⟨(p:Int), -1⟩).Ai.Second),i6 ((Ah false 406 ⟨(p:Int), -1⟩).e),i6 ((Ah false 406 ⟨(p:Int), -1⟩).Ai.First),i6 ((Ah false 406 ⟨(p:Int), -1⟩).Ai.Second),i6 ((Ah false 407 ⟨(p:Int), -1⟩).e),i6 ((Ah false 407 ⟨(p:Int), -1⟩).Ai.First),i6 ((Ah false 407 ⟨(p:Int), -1⟩).Ai.Second),i6 ((Ah (win (y8.Af.xs.length:Int) 1 8) 408 ⟨(p:Int), -1⟩).e),i6 ((Ah (win (y8.Af.xs.length:Int) 1 8) 408 ⟨(p:Int), -1⟩).Ai.First),i6 ((Ah (win (y8.Af.xs.length:Int) 1 8) 408 ⟨(p:Int), -1⟩).Ai.Second)] 73
abbrev VR:=bk n162 #[i6 ((Ah (AX c p) 405 ⟨(p:Int), -1⟩).e),i6 ((Ah (AX c p) 405 ⟨(p:Int), -1⟩).Ai.First),i6 ((Ah (AX c p) 405 ⟨(p:Int), -1⟩).Ai.Second),i6 ((Ah false 406 ⟨(p:Int), -1⟩).e),i6 ((Ah false 406 ⟨(p:Int), -1⟩).Ai.First),i6 ((Ah false 406 ⟨(p:Int), -1⟩).Ai.Second),i6 ((Ah false 407 ⟨(p:Int), -1⟩).e),i6 ((Ah false 407 ⟨(p:Int), -1⟩).Ai.First),i6 ((Ah false 407 ⟨(p:Int), -1⟩).Ai.Second),i6 ((Ah (win (y8.Af.xs.length:Int) 1 8) 408 ⟨(p:Int), -1⟩).e),i6 ((Ah (win (y8.Af.xs.length:Int) 1 8) 408 ⟨(p:Int), -1⟩).Ai.First),i6 ((Ah (win (y8.Af.xs.length:Int) 1 8) 408 ⟨(p:Int), -1⟩).Ai.Second)] 73
abbrev Y4:=bk n209 #[i6 ((Ah (GK y8) 412 ⟨(p:Int), -1⟩).e),i6 ((Ah (GK y8) 412 ⟨(p:Int), -1⟩).Ai.First),i6 ((Ah (GK y8) 412 ⟨(p:Int), -1⟩).Ai.Second),i6 ((Ah false 413 ⟨(p:Int), -1⟩).e),i6 ((Ah false 413 ⟨(p:Int), -1⟩).Ai.First),i6 ((Ah false 413 ⟨(p:Int), -1⟩).Ai.Second)] 73
abbrev YE:=bk n220 #[i6 ((Ah (GK y8) 412 ⟨(p:Int), -1⟩).e),i6 ((Ah (GK y8) 412 ⟨(p:Int), -1⟩).Ai.First),i6 ((Ah (GK y8) 412 ⟨(p:Int), -1⟩).Ai.Second),i6 ((Ah true 413 ⟨(p:Int), -1⟩).e),i6 ((Ah true 413 ⟨(p:Int), -1⟩).Ai.First),i6 ((Ah true 413 ⟨(p:Int), -1⟩).Ai.Second)] 73
abbrev Y8:=bk n232 #[i6 ((Ah false 412 ⟨(p:Int), -1⟩).e),i6 ((Ah false 412 ⟨(p:Int), -1⟩).Ai.First),i6 ((Ah false 412 ⟨(p:Int), -1⟩).Ai.Second),i6 ((Ah false 413 ⟨(p:Int), -1⟩).e),i6 ((Ah false 413 ⟨(p:Int), -1⟩).Ai.First),i6 ((Ah false 413 ⟨(p:Int), -1⟩).Ai.Second)] 73
abbrev XX:=bk n242 #[i6 ((Ah false 412 ⟨(p:Int), -1⟩).e),i6 ((Ah false 412 ⟨(p:Int), -1⟩).Ai.First),i6 ((Ah false 412 ⟨(p:Int), -1⟩).Ai.Second),i6 ((Ah true 413 ⟨(p:Int), -1⟩).e),i6 ((Ah true 413 ⟨(p:Int), -1⟩).Ai.First),i6 ((Ah true 413 ⟨(p:Int), -1⟩).Ai.Second)] 73
abbrev ZaD:Ch:= .blk b36 (.cells (Ar.arr (Bc [(Ah (AX c p) 405 ⟨(p:Int), -1⟩),(Ah (win y8.AY 0 15) 406 ⟨(p:Int), -1⟩),(Ah (win y8.Bi 0 16) 407 ⟨(p:Int), -1⟩),(Ah (win (y8.Af.xs.length:Int) 1 8) 408 ⟨(p:Int), -1⟩)])) 73 (0,0)) true
abbrev ZaG:Ch:= .blk b42 (.cells (Ar.arr (Bc [(Ah (AX c p) 405 ⟨(p:Int), -1⟩),(Ah (win y8.AY 0 15) 406 ⟨(p:Int), -1⟩),(Ah (win y8.Bi 0 16) 407 ⟨(p:Int), -1⟩),(Ah (win (y8.Af.xs.length:Int) 1 8) 408 ⟨(p:Int), -1⟩)])) 73 (0,0)) true
abbrev Ya:Ch:= .blk b17 (.cells (Ar.arr (Bc [(Ah (AX c p) 405 ⟨(p:Int), -1⟩),(Ah (win y8.AY 0 15) 406 ⟨(p:Int), -1⟩),(Ah (win y8.Bi 0 16) 407 ⟨(p:Int), -1⟩),(Ah (win (y8.Af.xs.length:Int) 1 8) 408 ⟨(p:Int), -1⟩)])) 73 (0,0)) true
abbrev Zbe:Ch:= .blk b79 (.cells (Ar.arr (Bc [(Ah (AX c p) 405 ⟨(p:Int), -1⟩),(Ah (win y8.AY 0 15) 406 ⟨(p:Int), -1⟩),(Ah false 407 ⟨(p:Int), -1⟩),(Ah (win (y8.Af.xs.length:Int) 1 8) 408 ⟨(p:Int), -1⟩)])) 73 (0,0)) true
abbrev Za3:Ch:= .blk b85 (.cells (Ar.arr (Bc [(Ah (AX c p) 405 ⟨(p:Int), -1⟩),(Ah (win y8.AY 0 15) 406 ⟨(p:Int), -1⟩),(Ah false 407 ⟨(p:Int), -1⟩),(Ah (win (y8.Af.xs.length:Int) 1 8) 408 ⟨(p:Int), -1⟩)])) 73 (0,0)) true
abbrev ZaW:Ch:= .blk b61 (.cells (Ar.arr (Bc [(Ah (AX c p) 405 ⟨(p:Int), -1⟩),(Ah (win y8.AY 0 15) 406 ⟨(p:Int), -1⟩),(Ah false 407 ⟨(p:Int), -1⟩),(Ah (win (y8.Af.xs.length:Int) 1 8) 408 ⟨(p:Int), -1⟩)])) 73 (0,0)) true
abbrev ZaF:Ch:= .blk b124 (.cells (Ar.arr (Bc [(Ah (AX c p) 405 ⟨(p:Int), -1⟩),(Ah false 406 ⟨(p:Int), -1⟩),(Ah (win y8.Bi 0 16) 407 ⟨(p:Int), -1⟩),(Ah (win (y8.Af.xs.length:Int) 1 8) 408 ⟨(p:Int), -1⟩)])) 73 (0,0)) true
abbrev Zbc:Ch:= .blk b130 (.cells (Ar.arr (Bc [(Ah (AX c p) 405 ⟨(p:Int), -1⟩),(Ah false 406 ⟨(p:Int), -1⟩),(Ah (win y8.Bi 0 16) 407 ⟨(p:Int), -1⟩),(Ah (win (y8.Af.xs.length:Int) 1 8) 408 ⟨(p:Int), -1⟩)])) 73 (0,0)) true
abbrev Yx:Ch:= .blk b106 (.cells (Ar.arr (Bc [(Ah (AX c p) 405 ⟨(p:Int), -1⟩),(Ah false 406 ⟨(p:Int), -1⟩),(Ah (win y8.Bi 0 16) 407 ⟨(p:Int), -1⟩),(Ah (win (y8.Af.xs.length:Int) 1 8) 408 ⟨(p:Int), -1⟩)])) 73 (0,0)) true
abbrev ZaV:Ch:= .blk b166 (.cells (Ar.arr (Bc [(Ah (AX c p) 405 ⟨(p:Int), -1⟩),(Ah false 406 ⟨(p:Int), -1⟩),(Ah false 407 ⟨(p:Int), -1⟩),(Ah (win (y8.Af.xs.length:Int) 1 8) 408 ⟨(p:Int), -1⟩)])) 73 (0,0)) true
abbrev Zbd:Ch:= .blk b172 (.cells (Ar.arr (Bc [(Ah (AX c p) 405 ⟨(p:Int), -1⟩),(Ah false 406 ⟨(p:Int), -1⟩),(Ah false 407 ⟨(p:Int), -1⟩),(Ah (win (y8.Af.xs.length:Int) 1 8) 408 ⟨(p:Int), -1⟩)])) 73 (0,0)) true
abbrev Zax:Ch:= .blk b149 (.cells (Ar.arr (Bc [(Ah (AX c p) 405 ⟨(p:Int), -1⟩),(Ah false 406 ⟨(p:Int), -1⟩),(Ah false 407 ⟨(p:Int), -1⟩),(Ah (win (y8.Af.xs.length:Int) 1 8) 408 ⟨(p:Int), -1⟩)])) 73 (0,0)) true
abbrev Yb:Ch:= .blk b6 (.cells (Ar.arr (Bc [(Ah (GK y8) 412 ⟨(p:Int), -1⟩),(Ah false 413 ⟨(p:Int), -1⟩)])) 73 (0,0)) true
abbrev XY:Ch:= .blk b6 (.cells (Ar.arr (Bc [(Ah (GK y8) 412 ⟨(p:Int), -1⟩),(Ah true 413 ⟨(p:Int), -1⟩)])) 73 (0,0)) true
abbrev YH:Ch:= .blk b6 (.cells (Ar.arr (Bc [(Ah false 412 ⟨(p:Int), -1⟩),(Ah false 413 ⟨(p:Int), -1⟩)])) 73 (0,0)) true
abbrev Y2:Ch:= .blk b6 (.cells (Ar.arr (Bc [(Ah false 412 ⟨(p:Int), -1⟩),(Ah true 413 ⟨(p:Int), -1⟩)])) 73 (0,0)) true
abbrev SY:Ch:= .blk b6 (.cells (Ar.arr (FZ (Bc (H9 c p)) (J8 c p) k)) 73 (0,0)) true
abbrev Bv:=bk (z+1) #[i6 0,i6 0,i6 0] 73
abbrev Bq:=bk (z+2) (Ap.arr y8) 41
abbrev JS:=bk b6 (Ar.arr (IP c p)) 73
abbrev Bl:=bk z (Aj.arr c) 26
abbrev QY:DJ:=(50,.agg (Ar.arr (Bc [(Ah (AX c p) 405 ⟨(p:Int), -1⟩),(Ah (win y8.AY 0 15) 406 ⟨(p:Int), -1⟩),(Ah (win y8.Bi 0 16) 407 ⟨(p:Int), -1⟩),(Ah (win (y8.Af.xs.length:Int) 1 8) 408 ⟨(p:Int), -1⟩)])))
abbrev Rl:DJ:=(50,.agg (Ar.arr (Bc [(Ah (AX c p) 405 ⟨(p:Int), -1⟩),(Ah (win y8.AY 0 15) 406 ⟨(p:Int), -1⟩),(Ah false 407 ⟨(p:Int), -1⟩),(Ah (win (y8.Af.xs.length:Int) 1 8) 408 ⟨(p:Int), -1⟩)])))
abbrev Rw:DJ:=(50,.agg (Ar.arr (Bc [(Ah (AX c p) 405 ⟨(p:Int), -1⟩),(Ah false 406 ⟨(p:Int), -1⟩),(Ah (win y8.Bi 0 16) 407 ⟨(p:Int), -1⟩),(Ah (win (y8.Af.xs.length:Int) 1 8) 408 ⟨(p:Int), -1⟩)])))
abbrev QI:DJ:=(50,.agg (Ar.arr (Bc [(Ah (AX c p) 405 ⟨(p:Int), -1⟩),(Ah false 406 ⟨(p:Int), -1⟩),(Ah false 407 ⟨(p:Int), -1⟩),(Ah (win (y8.Af.xs.length:Int) 1 8) 408 ⟨(p:Int), -1⟩)])))
abbrev La:DJ:=(48,.agg (Ar.arr (Ah (win (y8.Af.xs.length:Int) 1 8) 408 ⟨(p:Int), -1⟩)))
abbrev QS:DJ:=(30,.agg (Ar.arr (Ah (win y8.AY 0 15) 406 ⟨(p:Int), -1⟩)))
abbrev PE:DJ:=(41,.agg (Ar.arr (Ah (win y8.Bi 0 16) 407 ⟨(p:Int), -1⟩)))
abbrev Lc:DJ:=(19,.agg (Ar.arr (Ah (AX c p) 405 ⟨(p:Int), -1⟩)))
abbrev Ru:DJ:=(41,.agg (Ar.arr (Ah false 407 ⟨(p:Int), -1⟩)))
abbrev Rk:DJ:=(30,.agg (Ar.arr (Ah false 406 ⟨(p:Int), -1⟩)))
abbrev QT:=(44,Ac y8.Af.xs.length)
abbrev AU:=(4,pt (z+1))
abbrev AZ:=(5,pt (z+2))
abbrev D6:=(6,pt b6)
abbrev Ye:=[(Ak w),(Bl c z),(Bv z),(Bq y8 z),(.blk b6 (.cells (Ar.arr (Ah (win y260.Channel 0 ((c.Ag.xs.length:Int) - 1)) 414 ⟨(p:Int),(k:Int)⟩)) 73 (0,0)) true)]
abbrev JR:=[(Ak w),(Bl c z),(Bv z),(Bq y8 z),(JS c p b6)]
end
theorem S9(w:World)(hL:JM w)(c:Aj)(hc:Aj.ok Any w c)(p:Nat)(hp:p<c.Aa.xs.length)(hFr:1≤c.Frames∧c.Frames≤1024)(hpf:∀ q,q<p→CX c q=Bg):Calls Tryd.prog 48 #[.agg (Aj.arr c),.int .i64 (p:Int)] w fun e w'=>e = .returned (.agg (Ar.arr (CX c p)))∧CP (fun _=>False) w w':=by
 obtain⟨z,hz⟩:∃ z,z=w.heap.size:=⟨_,rfl⟩
 refine CE (args:=[.agg (Aj.arr c),Ac p]) 118 ⟨w,z,[(Ak w)]⟩ Tryd.func48 rfl (by kernel_rfl) (by kernel_rfl) (Ep hz) ?_
 have hpl:=hc.Aa.1.len;have hpc:=hc.Aa.1.le;have hrl:=(hc.Aa.2 p hp).Af.1.len;have hrc:=(hc.Aa.2 p hp).Af.1.le;have hpp:=(hc.Aa.2 p hp).Am.1.len;have hcl:=hc.Ag.1.len
 refine DC [0,1] [(0,.agg (Aj.arr c)),(1,Ac p)] ?_
 refine q_c 5 0 [] [[o0,o0]] [] [(1,Ac p),(2,pt z),(AU z)] ⟨w,z+2,[(Ak w),(Bl c z),(Bv z)]⟩ rfl Ae ?_
 obtain⟨b1,o2,ha3,hF5,hc4⟩:=(hc.Aa).1.all (show 0<c.Aa.xs.length by omega)
 replace ha3:c.Aa.a=some ⟨b1,o2,none⟩:=ha3
 have hc6:=hc4 p (show p<c.Aa.xs.length by omega)
 have he7:=(hc.Aa).2 p (show p<c.Aa.xs.length by omega)
 obtain⟨y8,hy8⟩:∃ y_,y_=gd c.Aa.xs p:=⟨_,rfl⟩
 rw[←hy8]at he7 hc6
 (try rw[←hy8]at hrl hrc hpp)
 refine q_c 3 0 [] [[o0,(DN 1 b1 o2 c.Aa),o0,(oi p),(ol 0 (Ap.arr y8)),o0,(an 8 3)]] [Qb z,Dh b1 o2 c.Aa,Ci p,p<c.Aa.xs.length,BN,Fa w b1 (o2+p*8) (Ap.arr y8),Qb (z+2),Qb (z+2),Qb (z+2),Qb (z+2),Qb (z+2),Qb (z+2),Qb (z+2),Qb (z+2)] [(1,Ac p),(2,pt z),(AU z),(AZ z)] ⟨w,z+3,[(Ak w),(Bl c z),(Bv z),(Bq y8 z)]⟩ rfl ⟨rfl,Df ha3,rfl,(by omega),rfl,Dt hc6,rfl,rfl,rfl,rfl,rfl,rfl,rfl,rfl,Ae⟩ ?_
 refine WI (fun a w'=>∃ (n9:Nat) (b6:Nat),z+3≤n9∧St 118 [(1,Ac p),(2,pt z),(AU z),(AZ z),(D6 b6)] [] ⟨w,n9,[(Ak w),(Bl c z),(Bv z),(Bq y8 z),(.blk b6 (.cells (Ar.arr (Bc (G6 c p))) 73 (0,0)) true)]⟩ a w') ?_ ?_
 ·by_cases h11:(win y8.DK 0 2)=true
  ·have hd12:=EE h11
   by_cases h13:(win y8.DI 0 16)=true
   ·have hd14:=EE h13
    refine Eh 38 [0,1,2,3] [(Ak w),(Bl c z),(Bv z),(Bq y8 z)] rfl rfl ?_
    refine Dj [(0,(an 7 1)),(1,o0),(3,o0),(6,o0),(7,(a1 3)),(14,o0),(17,o0),(18,(a1 3)),(25,o0),(28,o0),(29,(a1 3)),(30,o0),(32,o0)] [1,2,4,5,14,15,17,21,28,32,39,44,46] [Qb z,Qb z,Qb z,Qb z,Qb z,Qb z,Qb z,Qb (z+2),Qb (z+2),Qb (z+2)] [true,true,false,true,false,false,true,true,false,false,false,false,false,false,true,false,false,true,true,false,false,false,false,false,false,true,false,false,true,true,true,false,true,false,false,false,false,false,false] [(1,Ac p),(2,pt z),(AU z),(AZ z),(14,.agg (Aj.arr c)),(15,Ac p),(17,Ac p),(21,i6 y8.DK),(28,Ac p),(32,i6 y8.DI),(39,Ac p),(QT y8),(46,Ac p)] ⟨rfl,rfl,rfl,rfl,rfl,rfl,rfl,rfl,rfl,rfl,Ae⟩ ?_
    refine Qx (fun x:{p:Nat×Nat×Nat // z+3≤p.1∧z+3≤p.2.1∧z+3≤p.2.2}=>([(1,Ac p),(2,pt z),(AU z),(AZ z),(6,pt x.1.2.2)],⟨w,x.1.1,[(Ak w),(Bl c z),(Bv z),(Bq y8 z),(.blk x.1.2.1 (.cells #[i6 ((Ah (AX c p) 405 ⟨(p:Int), -1⟩).e),i6 ((Ah (AX c p) 405 ⟨(p:Int), -1⟩).Ai.First),i6 ((Ah (AX c p) 405 ⟨(p:Int), -1⟩).Ai.Second),i6 ((Ah (win y8.AY 0 15) 406 ⟨(p:Int), -1⟩).e),i6 ((Ah (win y8.AY 0 15) 406 ⟨(p:Int), -1⟩).Ai.First),i6 ((Ah (win y8.AY 0 15) 406 ⟨(p:Int), -1⟩).Ai.Second),i6 ((Ah (win y8.Bi 0 16) 407 ⟨(p:Int), -1⟩).e),i6 ((Ah (win y8.Bi 0 16) 407 ⟨(p:Int), -1⟩).Ai.First),i6 ((Ah (win y8.Bi 0 16) 407 ⟨(p:Int), -1⟩).Ai.Second),i6 ((Ah (win (y8.Af.xs.length:Int) 1 8) 408 ⟨(p:Int), -1⟩).e),i6 ((Ah (win (y8.Af.xs.length:Int) 1 8) 408 ⟨(p:Int), -1⟩).Ai.First),i6 ((Ah (win (y8.Af.xs.length:Int) 1 8) 408 ⟨(p:Int), -1⟩).Ai.Second)] 73 (0,0)) true),(.blk x.1.2.2 (.cells (Ar.arr (Bc [(Ah (AX c p) 405 ⟨(p:Int), -1⟩),(Ah (win y8.AY 0 15) 406 ⟨(p:Int), -1⟩),(Ah (win y8.Bi 0 16) 407 ⟨(p:Int), -1⟩),(Ah (win (y8.Af.xs.length:Int) 1 8) 408 ⟨(p:Int), -1⟩)])) 73 (0,0)) true)]⟩)) (fun hK => ?_) ?_
    ·refine Qg 37 6 [.cl 2 (.bool (AX c p)),.cl 4 (.agg #[(Ac p),i6 (-1)]),.cl 5 (.agg (Ar.arr (Ah (AX c p) 405 ⟨(p:Int), -1⟩))),.cl 8 (.bool (win y8.DK 0 2)),.tk 9 (ov (.bool true)),.tk 10 o0,.tk 11 (a1 3),.cl 12 (.bool (win y8.AY 0 15)),.tk 13 o0,.cl 15 (.agg #[(Ac p),i6 (-1)]),.cl 16 (.agg (Ar.arr (Ah (win y8.AY 0 15) 406 ⟨(p:Int), -1⟩))),.cl 19 (.bool (win y8.DI 0 16)),.tk 20 (ov (.bool true)),.tk 21 o0,.tk 22 (a1 3),.cl 23 (.bool (win y8.Bi 0 16)),.tk 24 o0,.cl 26 (.agg #[(Ac p),i6 (-1)]),.cl 27 (.agg (Ar.arr (Ah (win y8.Bi 0 16) 407 ⟨(p:Int), -1⟩))),.cl 31 (.bool (win (y8.Af.xs.length:Int) 1 8)),.cl 33 (.agg #[(Ac p),i6 (-1)]),.cl 34 (.agg (Ar.arr (Ah (win (y8.Af.xs.length:Int) 1 8) 408 ⟨(p:Int), -1⟩)))] [1,2,4,5,19,30,41,48] [(66,#[.agg (Aj.arr c),Ac p],.bool (AX c p)),(67,#[(Ac p)],.agg #[(Ac p),i6 (-1)]),(41,#[.bool (AX c p),i6 405,.agg #[(Ac p),i6 (-1)]],.agg (Ar.arr (Ah (AX c p) 405 ⟨(p:Int), -1⟩))),(42,#[i6 y8.DK,i6 0,i6 2],.bool (win y8.DK 0 2)),(42,#[i6 y8.AY,i6 0,i6 15],.bool (win y8.AY 0 15)),(67,#[(Ac p)],.agg #[(Ac p),i6 (-1)]),(41,#[.bool (win y8.AY 0 15),i6 406,.agg #[(Ac p),i6 (-1)]],.agg (Ar.arr (Ah (win y8.AY 0 15) 406 ⟨(p:Int), -1⟩))),(42,#[i6 y8.DI,i6 0,i6 16],.bool (win y8.DI 0 16)),(42,#[i6 y8.Bi,i6 0,i6 16],.bool (win y8.Bi 0 16)),(67,#[(Ac p)],.agg #[(Ac p),i6 (-1)]),(41,#[.bool (win y8.Bi 0 16),i6 407,.agg #[(Ac p),i6 (-1)]],.agg (Ar.arr (Ah (win y8.Bi 0 16) 407 ⟨(p:Int), -1⟩))),(42,#[(Ac y8.Af.xs.length),i6 1,i6 8],.bool (win (y8.Af.xs.length:Int) 1 8)),(67,#[(Ac p)],.agg #[(Ac p),i6 (-1)]),(41,#[.bool (win (y8.Af.xs.length:Int) 1 8),i6 408,.agg #[(Ac p),i6 (-1)]],.agg (Ar.arr (Ah (win (y8.Af.xs.length:Int) 1 8) 408 ⟨(p:Int), -1⟩)))] (DF 35 4) [Value.bool (win y8.DK 0 2)=Value.bool true,Qb (z+2),Value.bool (win y8.DI 0 16)=Value.bool true,Qb (z+2)] [(1,Ac p),(2,pt z),(AU z),(AZ z),(Lc c p),(QS p y8),(PE p y8),(La p y8)] (.cells #[i6 0,i6 0,i6 0] 73 (0,0)) [0,1,2,3] ⟨(congrArg Value.bool h11),rfl,(congrArg Value.bool h13),rfl,Ae⟩ ⟨fun w18 hw18=>Tv w18 c (hc.ext (hw18.ext rfl) (fun _ h=>h)) p hp,fun w19 hw19=>DR w19 (p:Int),fun w20 hw20=>Bz w20 (hL.ext (hw20.ext rfl)) (AX c p) 405 (p:Int) (-1),fun w21 hw21=>Cj w21 y8.DK 0 2,fun w22 hw22=>Cj w22 y8.AY 0 15,fun w23 hw23=>DR w23 (p:Int),fun w24 hw24=>Bz w24 (hL.ext (hw24.ext rfl)) (win y8.AY 0 15) 406 (p:Int) (-1),fun w25 hw25=>Cj w25 y8.DI 0 16,fun w26 hw26=>Cj w26 y8.Bi 0 16,fun w27 hw27=>DR w27 (p:Int),fun w28 hw28=>Bz w28 (hL.ext (hw28.ext rfl)) (win y8.Bi 0 16) 407 (p:Int) (-1),fun w29 hw29=>Cj w29 (y8.Af.xs.length:Int) 1 8,fun w30 hw30=>DR w30 (p:Int),fun w31 hw31=>Bz w31 (hL.ext (hw31.ext rfl)) (win (y8.Af.xs.length:Int) 1 8) 408 (p:Int) (-1),Ae⟩ ?_ (fun hv34 n32 hn33 => ?_)
     ·rintro⟨⟨n35,b36⟩,hb37⟩
      simp only at hb37
      refine BC 35 ?_
      refine BH o0 [6,1,2,4,5,49] [] [(6,pt b36),(1,Ac p),(2,pt z),(AU z),(AZ z),(49,.slice (some ⟨n35,0,none⟩) 4 4)] ⟨w,n35+1,[(Ak w),(Bl c z),(Bv z),(Bq y8 z),(bk b36 #[i6 0,i6 0,i6 0] 73),(Lh n35 c p y8)]⟩ [0,1,2,3] Ae (.inr rfl) ?_
      refine BC 36 ?_
      refine Ht 65 #[.slice (some ⟨n35,0,none⟩) 4 4] (some 50) (.agg (Ar.arr (Bc [(Ah (AX c p) 405 ⟨(p:Int), -1⟩),(Ah (win y8.AY 0 15) 406 ⟨(p:Int), -1⟩),(Ah (win y8.Bi 0 16) 407 ⟨(p:Int), -1⟩),(Ah (win (y8.Af.xs.length:Int) 1 8) 408 ⟨(p:Int), -1⟩)]))) [6,1,2,4,5,50] [(6,pt b36),(1,Ac p),(2,pt z),(AU z),(AZ z),(QY c p y8)] [0,1,2,3] (fun w38 hw38=>DZ w38 (hL.ext (hw38.ext rfl)) ⟨some ⟨n35,0,none⟩,4,[(Ah (AX c p) 405 ⟨(p:Int), -1⟩),(Ah (win y8.AY 0 15) 406 ⟨(p:Int), -1⟩),(Ah (win y8.Bi 0 16) 407 ⟨(p:Int), -1⟩),(Ah (win (y8.Af.xs.length:Int) 1 8) 408 ⟨(p:Int), -1⟩)]⟩ (EP hw38 (i:=5) [(Ah (AX c p) 405 ⟨(p:Int), -1⟩),(Ah (win y8.AY 0 15) 406 ⟨(p:Int), -1⟩),(Ah (win y8.Bi 0 16) 407 ⟨(p:Int), -1⟩),(Ah (win (y8.Af.xs.length:Int) 1 8) 408 ⟨(p:Int), -1⟩)]) (show 4≤1000 by decide)) (fun n39 hn40 => ?_)
      replace hn40:n35+1≤n39:=hn40
      refine BC 38 ?_
      refine BH (an 3 4) [6,1,2,4,5] [Qb b36,Qb b36,Qb b36] [(6,pt b36),(1,Ac p),(2,pt z),(AU z),(AZ z)] ⟨w,n39,[(Ak w),(Bl c z),(Bv z),(Bq y8 z),(ZaD c p y8 b36),(Lh n35 c p y8)]⟩ [] ⟨rfl,rfl,rfl,Ae⟩ (.inl rfl) ?_
      refine Es 39 [0,1,2,3,4,5] [(Ak w),(Bl c z),(Bv z),(Bq y8 z),(ZaD c p y8 b36),(Lh n35 c p y8)] rfl rfl ?_
      refine CU ?_
      refine BK [1,2,4,5,6] [(1,Ac p),(2,pt z),(AU z),(AZ z),(6,pt b36)] ?_
      refine Cb [0,1,2,3,5,4] [(Ak w),(Bl c z),(Bv z),(Bq y8 z),(Lh n35 c p y8),(ZaD c p y8 b36)] rfl rfl ?_
      exact hK ⟨(n39,n35,b36),by first | omega | (dsimp only;omega)⟩
     replace hn33:z+3≤n32:=hn33
     refine Oy (fun x:{p:Nat×Nat×Nat // n32≤p.1∧n32≤p.2.1∧n32≤p.2.2}=>[(1,Ac p),(2,pt z),(AU z),(AZ z),(6,pt x.1.2.1),(QY c p y8)]) (fun x=>⟨w,x.1.1,[(Ak w),(Bl c z),(Bv z),(Bq y8 z),(.blk x.1.2.1 (.cells #[i6 0,i6 0,i6 0] 73 (0,0)) true),(.blk x.1.2.2 (.cells #[i6 ((Ah (AX c p) 405 ⟨(p:Int), -1⟩).e),i6 ((Ah (AX c p) 405 ⟨(p:Int), -1⟩).Ai.First),i6 ((Ah (AX c p) 405 ⟨(p:Int), -1⟩).Ai.Second),i6 ((Ah (win y8.AY 0 15) 406 ⟨(p:Int), -1⟩).e),i6 ((Ah (win y8.AY 0 15) 406 ⟨(p:Int), -1⟩).Ai.First),i6 ((Ah (win y8.AY 0 15) 406 ⟨(p:Int), -1⟩).Ai.Second),i6 ((Ah (win y8.Bi 0 16) 407 ⟨(p:Int), -1⟩).e),i6 ((Ah (win y8.Bi 0 16) 407 ⟨(p:Int), -1⟩).Ai.First),i6 ((Ah (win y8.Bi 0 16) 407 ⟨(p:Int), -1⟩).Ai.Second),i6 ((Ah (win (y8.Af.xs.length:Int) 1 8) 408 ⟨(p:Int), -1⟩).e),i6 ((Ah (win (y8.Af.xs.length:Int) 1 8) 408 ⟨(p:Int), -1⟩).Ai.First),i6 ((Ah (win (y8.Af.xs.length:Int) 1 8) 408 ⟨(p:Int), -1⟩).Ai.Second)] 73 (0,0)) true)]⟩) 1 (DF 38 1) ?_ (fun hv44 => ?_)
     ·rintro⟨⟨n41,b42,b43⟩,hb45⟩
      simp only at hb45
      show Wg _ _ [(1,Ac p),(2,pt z),(AU z),(AZ z),(6,pt b42),(QY c p y8)] _ ⟨w,n41,[(Ak w),(Bl c z),(Bv z),(Bq y8 z),(bk b42 #[i6 0,i6 0,i6 0] 73),(Lr c p y8 b43)]⟩ _ _ _ _ _ _ _
      refine BC 38 ?_
      refine BH (an 3 4) [1,2,4,5,6] [Qb b42,Qb b42,Qb b42] [(1,Ac p),(2,pt z),(AU z),(AZ z),(6,pt b42)] ⟨w,n41,[(Ak w),(Bl c z),(Bv z),(Bq y8 z),(ZaG c p y8 b42),(Lr c p y8 b43)]⟩ [] ⟨rfl,rfl,rfl,Ae⟩ (.inl rfl) ?_
      refine Es 39 [0,1,2,3,4,5] [(Ak w),(Bl c z),(Bv z),(Bq y8 z),(ZaG c p y8 b42),(Lr c p y8 b43)] rfl rfl ?_
      refine CU ?_
      refine BK [1,2,4,5,6] [(1,Ac p),(2,pt z),(AU z),(AZ z),(6,pt b42)] ?_
      refine Cb [0,1,2,3,5,4] [(Ak w),(Bl c z),(Bv z),(Bq y8 z),(Lr c p y8 b43),(ZaG c p y8 b42)] rfl rfl ?_
      exact hK ⟨(n41,b43,b42),by first | omega | (dsimp only;omega)⟩
     refine Oy (fun x:{p:Nat×Nat×Nat // n32≤p.1∧n32≤p.2.1∧n32≤p.2.2}=>[(1,Ac p),(2,pt z),(AU z),(AZ z),(6,pt x.1.2.1),(49,.slice (some ⟨x.1.2.2,0,none⟩) 4 4)]) (fun x=>⟨w,x.1.1,[(Ak w),(Bl c z),(Bv z),(Bq y8 z),(.blk x.1.2.1 (.cells #[i6 0,i6 0,i6 0] 73 (0,0)) true),(.blk x.1.2.2 (.cells #[i6 ((Ah (AX c p) 405 ⟨(p:Int), -1⟩).e),i6 ((Ah (AX c p) 405 ⟨(p:Int), -1⟩).Ai.First),i6 ((Ah (AX c p) 405 ⟨(p:Int), -1⟩).Ai.Second),i6 ((Ah (win y8.AY 0 15) 406 ⟨(p:Int), -1⟩).e),i6 ((Ah (win y8.AY 0 15) 406 ⟨(p:Int), -1⟩).Ai.First),i6 ((Ah (win y8.AY 0 15) 406 ⟨(p:Int), -1⟩).Ai.Second),i6 ((Ah (win y8.Bi 0 16) 407 ⟨(p:Int), -1⟩).e),i6 ((Ah (win y8.Bi 0 16) 407 ⟨(p:Int), -1⟩).Ai.First),i6 ((Ah (win y8.Bi 0 16) 407 ⟨(p:Int), -1⟩).Ai.Second),i6 ((Ah (win (y8.Af.xs.length:Int) 1 8) 408 ⟨(p:Int), -1⟩).e),i6 ((Ah (win (y8.Af.xs.length:Int) 1 8) 408 ⟨(p:Int), -1⟩).Ai.First),i6 ((Ah (win (y8.Af.xs.length:Int) 1 8) 408 ⟨(p:Int), -1⟩).Ai.Second)] 73 (0,0)) true)]⟩) 2 [true,true,true,true,true,true,true,true,true,true,true,true,true,true,true,true,true,true,true,true,true,true,true,true,true,true,true,true,true,true,true,true,true,true,true,true,false,true,false] ?_ (fun hv49 => ?_)
     ·rintro⟨⟨n46,b47,b48⟩,hb50⟩
      simp only at hb50
      show Wg _ _ [(1,Ac p),(2,pt z),(AU z),(AZ z),(6,pt b47),(49,.slice (some ⟨b48,0,none⟩) 4 4)] _ ⟨w,n46,[(Ak w),(Bl c z),(Bv z),(Bq y8 z),(bk b47 #[i6 0,i6 0,i6 0] 73),(bk b48 #[i6 ((Ah (AX c p) 405 ⟨(p:Int), -1⟩).e),i6 ((Ah (AX c p) 405 ⟨(p:Int), -1⟩).Ai.First),i6 ((Ah (AX c p) 405 ⟨(p:Int), -1⟩).Ai.Second),i6 ((Ah (win y8.AY 0 15) 406 ⟨(p:Int), -1⟩).e),i6 ((Ah (win y8.AY 0 15) 406 ⟨(p:Int), -1⟩).Ai.First),i6 ((Ah (win y8.AY 0 15) 406 ⟨(p:Int), -1⟩).Ai.Second),i6 ((Ah (win y8.Bi 0 16) 407 ⟨(p:Int), -1⟩).e),i6 ((Ah (win y8.Bi 0 16) 407 ⟨(p:Int), -1⟩).Ai.First),i6 ((Ah (win y8.Bi 0 16) 407 ⟨(p:Int), -1⟩).Ai.Second),i6 ((Ah (win (y8.Af.xs.length:Int) 1 8) 408 ⟨(p:Int), -1⟩).e),i6 ((Ah (win (y8.Af.xs.length:Int) 1 8) 408 ⟨(p:Int), -1⟩).Ai.First),i6 ((Ah (win (y8.Af.xs.length:Int) 1 8) 408 ⟨(p:Int), -1⟩).Ai.Second)] 73)]⟩ _ _ _ _ _ _ _
      refine BC 36 ?_
      refine Ht 65 #[.slice (some ⟨b48,0,none⟩) 4 4] (some 50) (.agg (Ar.arr (Bc [(Ah (AX c p) 405 ⟨(p:Int), -1⟩),(Ah (win y8.AY 0 15) 406 ⟨(p:Int), -1⟩),(Ah (win y8.Bi 0 16) 407 ⟨(p:Int), -1⟩),(Ah (win (y8.Af.xs.length:Int) 1 8) 408 ⟨(p:Int), -1⟩)]))) [1,2,4,5,6,50] [(1,Ac p),(2,pt z),(AU z),(AZ z),(6,pt b47),(QY c p y8)] [0,1,2,3] (fun w51 hw51=>DZ w51 (hL.ext (hw51.ext rfl)) ⟨some ⟨b48,0,none⟩,4,[(Ah (AX c p) 405 ⟨(p:Int), -1⟩),(Ah (win y8.AY 0 15) 406 ⟨(p:Int), -1⟩),(Ah (win y8.Bi 0 16) 407 ⟨(p:Int), -1⟩),(Ah (win (y8.Af.xs.length:Int) 1 8) 408 ⟨(p:Int), -1⟩)]⟩ (EP hw51 (i:=5) [(Ah (AX c p) 405 ⟨(p:Int), -1⟩),(Ah (win y8.AY 0 15) 406 ⟨(p:Int), -1⟩),(Ah (win y8.Bi 0 16) 407 ⟨(p:Int), -1⟩),(Ah (win (y8.Af.xs.length:Int) 1 8) 408 ⟨(p:Int), -1⟩)]) (show 4≤1000 by decide)) (fun n52 hn53 => ?_)
      replace hn53:n46≤n52:=hn53
      refine DU [1,2,4,5,6,50] [(1,Ac p),(2,pt z),(AU z),(AZ z),(6,pt b47),(QY c p y8)] ?_
      exact hv44 ⟨(n52,b47,b48),by first | omega | (dsimp only;omega)⟩
     refine JC [35,37] ?_
     refine List.forall_mem_cons.2 ⟨?_,List.forall_mem_cons.2 ⟨?_,fun _ h=>absurd h List.not_mem_nil⟩⟩
     ·refine BH o0 [1,2,4,5,49] [] [(1,Ac p),(2,pt z),(AU z),(AZ z),(49,.slice (some ⟨n32,0,none⟩) 4 4)] ⟨w,n32+1,[(Ak w),(Bl c z),(Bv z),(Bq y8 z),(Pm c p y8 n32)]⟩ [0,1,2,3] Ae (.inr rfl) ?_
      refine JC [36,37] ?_
      refine List.forall_mem_cons.2 ⟨?_,List.forall_mem_cons.2 ⟨?_,fun _ h=>absurd h List.not_mem_nil⟩⟩
      ·refine Ht 65 #[.slice (some ⟨n32,0,none⟩) 4 4] (some 50) (.agg (Ar.arr (Bc [(Ah (AX c p) 405 ⟨(p:Int), -1⟩),(Ah (win y8.AY 0 15) 406 ⟨(p:Int), -1⟩),(Ah (win y8.Bi 0 16) 407 ⟨(p:Int), -1⟩),(Ah (win (y8.Af.xs.length:Int) 1 8) 408 ⟨(p:Int), -1⟩)]))) [1,2,4,5,50] [(1,Ac p),(2,pt z),(AU z),(AZ z),(QY c p y8)] [0,1,2,3] (fun w54 hw54=>DZ w54 (hL.ext (hw54.ext rfl)) ⟨some ⟨n32,0,none⟩,4,[(Ah (AX c p) 405 ⟨(p:Int), -1⟩),(Ah (win y8.AY 0 15) 406 ⟨(p:Int), -1⟩),(Ah (win y8.Bi 0 16) 407 ⟨(p:Int), -1⟩),(Ah (win (y8.Af.xs.length:Int) 1 8) 408 ⟨(p:Int), -1⟩)]⟩ (EP hw54 (i:=4) [(Ah (AX c p) 405 ⟨(p:Int), -1⟩),(Ah (win y8.AY 0 15) 406 ⟨(p:Int), -1⟩),(Ah (win y8.Bi 0 16) 407 ⟨(p:Int), -1⟩),(Ah (win (y8.Af.xs.length:Int) 1 8) 408 ⟨(p:Int), -1⟩)]) (show 4≤1000 by decide)) (fun n55 hn56 => ?_)
       replace hn56:n32+1≤n55:=hn56
       refine BC 37 ?_
       refine BH o0 [1,2,4,5,50,6] [] [(1,Ac p),(2,pt z),(AU z),(AZ z),(QY c p y8),(6,pt n55)] ⟨w,n55+1,[(Ak w),(Bl c z),(Bv z),(Bq y8 z),(Pm c p y8 n32),(bk n55 #[i6 0,i6 0,i6 0] 73)]⟩ [0,1,2,3] Ae (.inr rfl) ?_
       refine MJ [0,1,2,3,5,4] [(Ak w),(Bl c z),(Bv z),(Bq y8 z),(bk n55 #[i6 0,i6 0,i6 0] 73),(Pm c p y8 n32)] rfl rfl ?_
       refine DU [1,2,4,5,6,50] [(1,Ac p),(2,pt z),(AU z),(AZ z),(6,pt n55),(QY c p y8)] ?_
       exact hv44 ⟨(n55+1,n55,n32),by first | omega | (dsimp only;omega)⟩
      refine BH o0 [1,2,4,5,49,6] [] [(1,Ac p),(2,pt z),(AU z),(AZ z),(49,.slice (some ⟨n32,0,none⟩) 4 4),(6,pt (n32+1))] ⟨w,n32+2,[(Ak w),(Bl c z),(Bv z),(Bq y8 z),(Pm c p y8 n32),(bk (n32+1) #[i6 0,i6 0,i6 0] 73)]⟩ [0,1,2,3] Ae (.inr rfl) ?_
      refine MJ [0,1,2,3,5,4] [(Ak w),(Bl c z),(Bv z),(Bq y8 z),(bk (n32+1) #[i6 0,i6 0,i6 0] 73),(Pm c p y8 n32)] rfl rfl ?_
      refine DU [1,2,4,5,6,49] [(1,Ac p),(2,pt z),(AU z),(AZ z),(6,pt (n32+1)),(49,.slice (some ⟨n32,0,none⟩) 4 4)] ?_
      exact hv49 ⟨(n32+2,n32+1,n32),by first | omega | (dsimp only;omega)⟩
     refine BH o0 [1,2,4,5,19,30,41,48,6] [] [(1,Ac p),(2,pt z),(AU z),(AZ z),(Lc c p),(QS p y8),(PE p y8),(La p y8),(6,pt n32)] ⟨w,n32+1,[(Ak w),(Bl c z),(Bv z),(Bq y8 z),(bk n32 #[i6 0,i6 0,i6 0] 73)]⟩ [0,1,2,3] Ae (.inr rfl) ?_
     refine DU [6,1,2,4,5,19,30,41,48] [(6,pt n32),(1,Ac p),(2,pt z),(AU z),(AZ z),(Lc c p),(QS p y8),(PE p y8),(La p y8)] ?_
     exact hv34 ⟨(n32+1,n32),by first | omega | (dsimp only;omega)⟩
    rintro⟨⟨n15,b16,b17⟩,hJ57⟩
    simp only at hJ57
    show E _ _ [(1,Ac p),(2,pt z),(AU z),(AZ z),(6,pt b17)] _ ⟨w,n15,[(Ak w),(Bl c z),(Bv z),(Bq y8 z),(bk b16 #[i6 ((Ah (AX c p) 405 ⟨(p:Int), -1⟩).e),i6 ((Ah (AX c p) 405 ⟨(p:Int), -1⟩).Ai.First),i6 ((Ah (AX c p) 405 ⟨(p:Int), -1⟩).Ai.Second),i6 ((Ah (win y8.AY 0 15) 406 ⟨(p:Int), -1⟩).e),i6 ((Ah (win y8.AY 0 15) 406 ⟨(p:Int), -1⟩).Ai.First),i6 ((Ah (win y8.AY 0 15) 406 ⟨(p:Int), -1⟩).Ai.Second),i6 ((Ah (win y8.Bi 0 16) 407 ⟨(p:Int), -1⟩).e),i6 ((Ah (win y8.Bi 0 16) 407 ⟨(p:Int), -1⟩).Ai.First),i6 ((Ah (win y8.Bi 0 16) 407 ⟨(p:Int), -1⟩).Ai.Second),i6 ((Ah (win (y8.Af.xs.length:Int) 1 8) 408 ⟨(p:Int), -1⟩).e),i6 ((Ah (win (y8.Af.xs.length:Int) 1 8) 408 ⟨(p:Int), -1⟩).Ai.First),i6 ((Ah (win (y8.Af.xs.length:Int) 1 8) 408 ⟨(p:Int), -1⟩).Ai.Second)] 73),(Ya c p y8 b17)]⟩ _ _ _
    refine Cb [0,1,2,3,5] [(Ak w),(Bl c z),(Bv z),(Bq y8 z),(Ya c p y8 b17)] rfl rfl ?_
    have eA:Bc (G6 c p)=(Bc [(Ah (AX c p) 405 ⟨(p:Int), -1⟩),(Ah (win y8.AY 0 15) 406 ⟨(p:Int), -1⟩),(Ah (win y8.Bi 0 16) 407 ⟨(p:Int), -1⟩),(Ah (win (y8.Af.xs.length:Int) 1 8) 408 ⟨(p:Int), -1⟩)]):=by have e0:EQ c p=y8:=hy8.symm;unfold G6;simp only[e0];simp[h11,h13]
    refine BK [1,2,4,5,6] [(1,Ac p),(2,pt z),(AU z),(AZ z),(6,pt b17)] ?_
    refine BD (fun a w' hs=>⟨n15,b17,by omega,(by(try dsimp only[Ya,Bv,Bq,Bl,La,QS,PE,Lc,QT,AU,AZ,D6]at hs ⊢);rw[eA];exact hs)⟩)
   have hd58:=FQ h13
   refine Eh 38 [0,1,2,3] [(Ak w),(Bl c z),(Bv z),(Bq y8 z)] rfl rfl ?_
   refine Dj [(0,(an 7 1)),(1,o0),(3,o0),(6,o0),(7,(a1 3)),(14,o0),(17,o0),(18,(a1 3)),(25,o0),(28,o0),(29,(a1 3)),(30,o0),(32,o0)] [1,2,4,5,14,15,17,21,28,32,39,44,46] [Qb z,Qb z,Qb z,Qb z,Qb z,Qb z,Qb z,Qb (z+2),Qb (z+2),Qb (z+2)] [true,true,false,true,false,false,true,true,false,false,false,false,false,false,true,false,false,true,true,false,false,false,false,false,false,true,false,false,true,true,true,false,true,false,false,false,false,false,false] [(1,Ac p),(2,pt z),(AU z),(AZ z),(14,.agg (Aj.arr c)),(15,Ac p),(17,Ac p),(21,i6 y8.DK),(28,Ac p),(32,i6 y8.DI),(39,Ac p),(QT y8),(46,Ac p)] ⟨rfl,rfl,rfl,rfl,rfl,rfl,rfl,rfl,rfl,rfl,Ae⟩ ?_
   refine Qx (fun x:{p:Nat×Nat×Nat // z+3≤p.1∧z+3≤p.2.1∧z+3≤p.2.2}=>([(1,Ac p),(2,pt z),(AU z),(AZ z),(6,pt x.1.2.2)],⟨w,x.1.1,[(Ak w),(Bl c z),(Bv z),(Bq y8 z),(.blk x.1.2.1 (.cells #[i6 ((Ah (AX c p) 405 ⟨(p:Int), -1⟩).e),i6 ((Ah (AX c p) 405 ⟨(p:Int), -1⟩).Ai.First),i6 ((Ah (AX c p) 405 ⟨(p:Int), -1⟩).Ai.Second),i6 ((Ah (win y8.AY 0 15) 406 ⟨(p:Int), -1⟩).e),i6 ((Ah (win y8.AY 0 15) 406 ⟨(p:Int), -1⟩).Ai.First),i6 ((Ah (win y8.AY 0 15) 406 ⟨(p:Int), -1⟩).Ai.Second),i6 ((Ah false 407 ⟨(p:Int), -1⟩).e),i6 ((Ah false 407 ⟨(p:Int), -1⟩).Ai.First),i6 ((Ah false 407 ⟨(p:Int), -1⟩).Ai.Second),i6 ((Ah (win (y8.Af.xs.length:Int) 1 8) 408 ⟨(p:Int), -1⟩).e),i6 ((Ah (win (y8.Af.xs.length:Int) 1 8) 408 ⟨(p:Int), -1⟩).Ai.First),i6 ((Ah (win (y8.Af.xs.length:Int) 1 8) 408 ⟨(p:Int), -1⟩).Ai.Second)] 73 (0,0)) true),(.blk x.1.2.2 (.cells (Ar.arr (Bc [(Ah (AX c p) 405 ⟨(p:Int), -1⟩),(Ah (win y8.AY 0 15) 406 ⟨(p:Int), -1⟩),(Ah false 407 ⟨(p:Int), -1⟩),(Ah (win (y8.Af.xs.length:Int) 1 8) 408 ⟨(p:Int), -1⟩)])) 73 (0,0)) true)]⟩)) (fun hK => ?_) ?_
   ·refine Qg 37 6 [.cl 2 (.bool (AX c p)),.cl 4 (.agg #[(Ac p),i6 (-1)]),.cl 5 (.agg (Ar.arr (Ah (AX c p) 405 ⟨(p:Int), -1⟩))),.cl 8 (.bool (win y8.DK 0 2)),.tk 9 (ov (.bool true)),.tk 10 o0,.tk 11 (a1 3),.cl 12 (.bool (win y8.AY 0 15)),.tk 13 o0,.cl 15 (.agg #[(Ac p),i6 (-1)]),.cl 16 (.agg (Ar.arr (Ah (win y8.AY 0 15) 406 ⟨(p:Int), -1⟩))),.cl 19 (.bool (win y8.DI 0 16)),.tk 20 (ov (.bool false)),.tk 21 o0,.tk 22 o0,.tk 23 o0,.tk 24 o0,.cl 26 (.agg #[(Ac p),i6 (-1)]),.cl 27 (.agg (Ar.arr (Ah false 407 ⟨(p:Int), -1⟩))),.cl 31 (.bool (win (y8.Af.xs.length:Int) 1 8)),.cl 33 (.agg #[(Ac p),i6 (-1)]),.cl 34 (.agg (Ar.arr (Ah (win (y8.Af.xs.length:Int) 1 8) 408 ⟨(p:Int), -1⟩)))] [1,2,4,5,19,30,41,48] [(66,#[.agg (Aj.arr c),Ac p],.bool (AX c p)),(67,#[(Ac p)],.agg #[(Ac p),i6 (-1)]),(41,#[.bool (AX c p),i6 405,.agg #[(Ac p),i6 (-1)]],.agg (Ar.arr (Ah (AX c p) 405 ⟨(p:Int), -1⟩))),(42,#[i6 y8.DK,i6 0,i6 2],.bool (win y8.DK 0 2)),(42,#[i6 y8.AY,i6 0,i6 15],.bool (win y8.AY 0 15)),(67,#[(Ac p)],.agg #[(Ac p),i6 (-1)]),(41,#[.bool (win y8.AY 0 15),i6 406,.agg #[(Ac p),i6 (-1)]],.agg (Ar.arr (Ah (win y8.AY 0 15) 406 ⟨(p:Int), -1⟩))),(42,#[i6 y8.DI,i6 0,i6 16],.bool (win y8.DI 0 16)),(67,#[(Ac p)],.agg #[(Ac p),i6 (-1)]),(41,#[.bool false,i6 407,.agg #[(Ac p),i6 (-1)]],.agg (Ar.arr (Ah false 407 ⟨(p:Int), -1⟩))),(42,#[(Ac y8.Af.xs.length),i6 1,i6 8],.bool (win (y8.Af.xs.length:Int) 1 8)),(67,#[(Ac p)],.agg #[(Ac p),i6 (-1)]),(41,#[.bool (win (y8.Af.xs.length:Int) 1 8),i6 408,.agg #[(Ac p),i6 (-1)]],.agg (Ar.arr (Ah (win (y8.Af.xs.length:Int) 1 8) 408 ⟨(p:Int), -1⟩)))] (DF 35 4) [Value.bool (win y8.DK 0 2)=Value.bool true,Qb (z+2),Value.bool (win y8.DI 0 16)=Value.bool false] [(1,Ac p),(2,pt z),(AU z),(AZ z),(Lc c p),(QS p y8),(Ru p),(La p y8)] (.cells #[i6 0,i6 0,i6 0] 73 (0,0)) [0,1,2,3] ⟨(congrArg Value.bool h11),rfl,(congrArg Value.bool (Bool.eq_false_iff.2 h13)),Ae⟩ ⟨fun w62 hw62=>Tv w62 c (hc.ext (hw62.ext rfl) (fun _ h=>h)) p hp,fun w63 hw63=>DR w63 (p:Int),fun w64 hw64=>Bz w64 (hL.ext (hw64.ext rfl)) (AX c p) 405 (p:Int) (-1),fun w65 hw65=>Cj w65 y8.DK 0 2,fun w66 hw66=>Cj w66 y8.AY 0 15,fun w67 hw67=>DR w67 (p:Int),fun w68 hw68=>Bz w68 (hL.ext (hw68.ext rfl)) (win y8.AY 0 15) 406 (p:Int) (-1),fun w69 hw69=>Cj w69 y8.DI 0 16,fun w70 hw70=>DR w70 (p:Int),fun w71 hw71=>Bz w71 (hL.ext (hw71.ext rfl)) false 407 (p:Int) (-1),fun w72 hw72=>Cj w72 (y8.Af.xs.length:Int) 1 8,fun w73 hw73=>DR w73 (p:Int),fun w74 hw74=>Bz w74 (hL.ext (hw74.ext rfl)) (win (y8.Af.xs.length:Int) 1 8) 408 (p:Int) (-1),Ae⟩ ?_ (fun hv77 n75 hn76 => ?_)
    ·rintro⟨⟨n78,b79⟩,hb80⟩
     simp only at hb80
     refine BC 35 ?_
     refine BH o0 [6,1,2,4,5,49] [] [(6,pt b79),(1,Ac p),(2,pt z),(AU z),(AZ z),(49,.slice (some ⟨n78,0,none⟩) 4 4)] ⟨w,n78+1,[(Ak w),(Bl c z),(Bv z),(Bq y8 z),(bk b79 #[i6 0,i6 0,i6 0] 73),(NW c p y8 n78)]⟩ [0,1,2,3] Ae (.inr rfl) ?_
     refine BC 36 ?_
     refine Ht 65 #[.slice (some ⟨n78,0,none⟩) 4 4] (some 50) (.agg (Ar.arr (Bc [(Ah (AX c p) 405 ⟨(p:Int), -1⟩),(Ah (win y8.AY 0 15) 406 ⟨(p:Int), -1⟩),(Ah false 407 ⟨(p:Int), -1⟩),(Ah (win (y8.Af.xs.length:Int) 1 8) 408 ⟨(p:Int), -1⟩)]))) [6,1,2,4,5,50] [(6,pt b79),(1,Ac p),(2,pt z),(AU z),(AZ z),(Rl c p y8)] [0,1,2,3] (fun w81 hw81=>DZ w81 (hL.ext (hw81.ext rfl)) ⟨some ⟨n78,0,none⟩,4,[(Ah (AX c p) 405 ⟨(p:Int), -1⟩),(Ah (win y8.AY 0 15) 406 ⟨(p:Int), -1⟩),(Ah false 407 ⟨(p:Int), -1⟩),(Ah (win (y8.Af.xs.length:Int) 1 8) 408 ⟨(p:Int), -1⟩)]⟩ (EP hw81 (i:=5) [(Ah (AX c p) 405 ⟨(p:Int), -1⟩),(Ah (win y8.AY 0 15) 406 ⟨(p:Int), -1⟩),(Ah false 407 ⟨(p:Int), -1⟩),(Ah (win (y8.Af.xs.length:Int) 1 8) 408 ⟨(p:Int), -1⟩)]) (show 4≤1000 by decide)) (fun n82 hn83 => ?_)
     replace hn83:n78+1≤n82:=hn83
     refine BC 38 ?_
     refine BH (an 3 4) [6,1,2,4,5] [Qb b79,Qb b79,Qb b79] [(6,pt b79),(1,Ac p),(2,pt z),(AU z),(AZ z)] ⟨w,n82,[(Ak w),(Bl c z),(Bv z),(Bq y8 z),(Zbe c p y8 b79),(NW c p y8 n78)]⟩ [] ⟨rfl,rfl,rfl,Ae⟩ (.inl rfl) ?_
     refine Es 39 [0,1,2,3,4,5] [(Ak w),(Bl c z),(Bv z),(Bq y8 z),(Zbe c p y8 b79),(NW c p y8 n78)] rfl rfl ?_
     refine CU ?_
     refine BK [1,2,4,5,6] [(1,Ac p),(2,pt z),(AU z),(AZ z),(6,pt b79)] ?_
     refine Cb [0,1,2,3,5,4] [(Ak w),(Bl c z),(Bv z),(Bq y8 z),(NW c p y8 n78),(Zbe c p y8 b79)] rfl rfl ?_
     exact hK ⟨(n82,n78,b79),by first | omega | (dsimp only;omega)⟩
    replace hn76:z+3≤n75:=hn76
    refine Oy (fun x:{p:Nat×Nat×Nat // n75≤p.1∧n75≤p.2.1∧n75≤p.2.2}=>[(1,Ac p),(2,pt z),(AU z),(AZ z),(6,pt x.1.2.1),(Rl c p y8)]) (fun x=>⟨w,x.1.1,[(Ak w),(Bl c z),(Bv z),(Bq y8 z),(.blk x.1.2.1 (.cells #[i6 0,i6 0,i6 0] 73 (0,0)) true),(.blk x.1.2.2 (.cells #[i6 ((Ah (AX c p) 405 ⟨(p:Int), -1⟩).e),i6 ((Ah (AX c p) 405 ⟨(p:Int), -1⟩).Ai.First),i6 ((Ah (AX c p) 405 ⟨(p:Int), -1⟩).Ai.Second),i6 ((Ah (win y8.AY 0 15) 406 ⟨(p:Int), -1⟩).e),i6 ((Ah (win y8.AY 0 15) 406 ⟨(p:Int), -1⟩).Ai.First),i6 ((Ah (win y8.AY 0 15) 406 ⟨(p:Int), -1⟩).Ai.Second),i6 ((Ah false 407 ⟨(p:Int), -1⟩).e),i6 ((Ah false 407 ⟨(p:Int), -1⟩).Ai.First),i6 ((Ah false 407 ⟨(p:Int), -1⟩).Ai.Second),i6 ((Ah (win (y8.Af.xs.length:Int) 1 8) 408 ⟨(p:Int), -1⟩).e),i6 ((Ah (win (y8.Af.xs.length:Int) 1 8) 408 ⟨(p:Int), -1⟩).Ai.First),i6 ((Ah (win (y8.Af.xs.length:Int) 1 8) 408 ⟨(p:Int), -1⟩).Ai.Second)] 73 (0,0)) true)]⟩) 1 (DF 38 1) ?_ (fun hv87 => ?_)
    ·rintro⟨⟨n84,b85,b86⟩,hb88⟩
     simp only at hb88
     show Wg _ _ [(1,Ac p),(2,pt z),(AU z),(AZ z),(6,pt b85),(Rl c p y8)] _ ⟨w,n84,[(Ak w),(Bl c z),(Bv z),(Bq y8 z),(bk b85 #[i6 0,i6 0,i6 0] 73),(Pj c p y8 b86)]⟩ _ _ _ _ _ _ _
     refine BC 38 ?_
     refine BH (an 3 4) [1,2,4,5,6] [Qb b85,Qb b85,Qb b85] [(1,Ac p),(2,pt z),(AU z),(AZ z),(6,pt b85)] ⟨w,n84,[(Ak w),(Bl c z),(Bv z),(Bq y8 z),(Za3 c p y8 b85),(Pj c p y8 b86)]⟩ [] ⟨rfl,rfl,rfl,Ae⟩ (.inl rfl) ?_
     refine Es 39 [0,1,2,3,4,5] [(Ak w),(Bl c z),(Bv z),(Bq y8 z),(Za3 c p y8 b85),(Pj c p y8 b86)] rfl rfl ?_
     refine CU ?_
     refine BK [1,2,4,5,6] [(1,Ac p),(2,pt z),(AU z),(AZ z),(6,pt b85)] ?_
     refine Cb [0,1,2,3,5,4] [(Ak w),(Bl c z),(Bv z),(Bq y8 z),(Pj c p y8 b86),(Za3 c p y8 b85)] rfl rfl ?_
     exact hK ⟨(n84,b86,b85),by first | omega | (dsimp only;omega)⟩
    refine Oy (fun x:{p:Nat×Nat×Nat // n75≤p.1∧n75≤p.2.1∧n75≤p.2.2}=>[(1,Ac p),(2,pt z),(AU z),(AZ z),(6,pt x.1.2.1),(49,.slice (some ⟨x.1.2.2,0,none⟩) 4 4)]) (fun x=>⟨w,x.1.1,[(Ak w),(Bl c z),(Bv z),(Bq y8 z),(.blk x.1.2.1 (.cells #[i6 0,i6 0,i6 0] 73 (0,0)) true),(.blk x.1.2.2 (.cells #[i6 ((Ah (AX c p) 405 ⟨(p:Int), -1⟩).e),i6 ((Ah (AX c p) 405 ⟨(p:Int), -1⟩).Ai.First),i6 ((Ah (AX c p) 405 ⟨(p:Int), -1⟩).Ai.Second),i6 ((Ah (win y8.AY 0 15) 406 ⟨(p:Int), -1⟩).e),i6 ((Ah (win y8.AY 0 15) 406 ⟨(p:Int), -1⟩).Ai.First),i6 ((Ah (win y8.AY 0 15) 406 ⟨(p:Int), -1⟩).Ai.Second),i6 ((Ah false 407 ⟨(p:Int), -1⟩).e),i6 ((Ah false 407 ⟨(p:Int), -1⟩).Ai.First),i6 ((Ah false 407 ⟨(p:Int), -1⟩).Ai.Second),i6 ((Ah (win (y8.Af.xs.length:Int) 1 8) 408 ⟨(p:Int), -1⟩).e),i6 ((Ah (win (y8.Af.xs.length:Int) 1 8) 408 ⟨(p:Int), -1⟩).Ai.First),i6 ((Ah (win (y8.Af.xs.length:Int) 1 8) 408 ⟨(p:Int), -1⟩).Ai.Second)] 73 (0,0)) true)]⟩) 2 [true,true,true,true,true,true,true,true,true,true,true,true,true,true,true,true,true,true,true,true,true,true,true,true,true,true,true,true,true,true,true,true,true,true,true,true,false,true,false] ?_ (fun hv92 => ?_)
    ·rintro⟨⟨n89,b90,b91⟩,hb93⟩
     simp only at hb93
     show Wg _ _ [(1,Ac p),(2,pt z),(AU z),(AZ z),(6,pt b90),(49,.slice (some ⟨b91,0,none⟩) 4 4)] _ ⟨w,n89,[(Ak w),(Bl c z),(Bv z),(Bq y8 z),(bk b90 #[i6 0,i6 0,i6 0] 73),(bk b91 #[i6 ((Ah (AX c p) 405 ⟨(p:Int), -1⟩).e),i6 ((Ah (AX c p) 405 ⟨(p:Int), -1⟩).Ai.First),i6 ((Ah (AX c p) 405 ⟨(p:Int), -1⟩).Ai.Second),i6 ((Ah (win y8.AY 0 15) 406 ⟨(p:Int), -1⟩).e),i6 ((Ah (win y8.AY 0 15) 406 ⟨(p:Int), -1⟩).Ai.First),i6 ((Ah (win y8.AY 0 15) 406 ⟨(p:Int), -1⟩).Ai.Second),i6 ((Ah false 407 ⟨(p:Int), -1⟩).e),i6 ((Ah false 407 ⟨(p:Int), -1⟩).Ai.First),i6 ((Ah false 407 ⟨(p:Int), -1⟩).Ai.Second),i6 ((Ah (win (y8.Af.xs.length:Int) 1 8) 408 ⟨(p:Int), -1⟩).e),i6 ((Ah (win (y8.Af.xs.length:Int) 1 8) 408 ⟨(p:Int), -1⟩).Ai.First),i6 ((Ah (win (y8.Af.xs.length:Int) 1 8) 408 ⟨(p:Int), -1⟩).Ai.Second)] 73)]⟩ _ _ _ _ _ _ _
     refine BC 36 ?_
     refine Ht 65 #[.slice (some ⟨b91,0,none⟩) 4 4] (some 50) (.agg (Ar.arr (Bc [(Ah (AX c p) 405 ⟨(p:Int), -1⟩),(Ah (win y8.AY 0 15) 406 ⟨(p:Int), -1⟩),(Ah false 407 ⟨(p:Int), -1⟩),(Ah (win (y8.Af.xs.length:Int) 1 8) 408 ⟨(p:Int), -1⟩)]))) [1,2,4,5,6,50] [(1,Ac p),(2,pt z),(AU z),(AZ z),(6,pt b90),(Rl c p y8)] [0,1,2,3] (fun w94 hw94=>DZ w94 (hL.ext (hw94.ext rfl)) ⟨some ⟨b91,0,none⟩,4,[(Ah (AX c p) 405 ⟨(p:Int), -1⟩),(Ah (win y8.AY 0 15) 406 ⟨(p:Int), -1⟩),(Ah false 407 ⟨(p:Int), -1⟩),(Ah (win (y8.Af.xs.length:Int) 1 8) 408 ⟨(p:Int), -1⟩)]⟩ (EP hw94 (i:=5) [(Ah (AX c p) 405 ⟨(p:Int), -1⟩),(Ah (win y8.AY 0 15) 406 ⟨(p:Int), -1⟩),(Ah false 407 ⟨(p:Int), -1⟩),(Ah (win (y8.Af.xs.length:Int) 1 8) 408 ⟨(p:Int), -1⟩)]) (show 4≤1000 by decide)) (fun n95 hn96 => ?_)
     replace hn96:n89≤n95:=hn96
     refine DU [1,2,4,5,6,50] [(1,Ac p),(2,pt z),(AU z),(AZ z),(6,pt b90),(Rl c p y8)] ?_
     exact hv87 ⟨(n95,b90,b91),by first | omega | (dsimp only;omega)⟩
    refine JC [35,37] ?_
    refine List.forall_mem_cons.2 ⟨?_,List.forall_mem_cons.2 ⟨?_,fun _ h=>absurd h List.not_mem_nil⟩⟩
    ·refine BH o0 [1,2,4,5,49] [] [(1,Ac p),(2,pt z),(AU z),(AZ z),(49,.slice (some ⟨n75,0,none⟩) 4 4)] ⟨w,n75+1,[(Ak w),(Bl c z),(Bv z),(Bq y8 z),(Lm c p y8 n75)]⟩ [0,1,2,3] Ae (.inr rfl) ?_
     refine JC [36,37] ?_
     refine List.forall_mem_cons.2 ⟨?_,List.forall_mem_cons.2 ⟨?_,fun _ h=>absurd h List.not_mem_nil⟩⟩
     ·refine Ht 65 #[.slice (some ⟨n75,0,none⟩) 4 4] (some 50) (.agg (Ar.arr (Bc [(Ah (AX c p) 405 ⟨(p:Int), -1⟩),(Ah (win y8.AY 0 15) 406 ⟨(p:Int), -1⟩),(Ah false 407 ⟨(p:Int), -1⟩),(Ah (win (y8.Af.xs.length:Int) 1 8) 408 ⟨(p:Int), -1⟩)]))) [1,2,4,5,50] [(1,Ac p),(2,pt z),(AU z),(AZ z),(Rl c p y8)] [0,1,2,3] (fun w97 hw97=>DZ w97 (hL.ext (hw97.ext rfl)) ⟨some ⟨n75,0,none⟩,4,[(Ah (AX c p) 405 ⟨(p:Int), -1⟩),(Ah (win y8.AY 0 15) 406 ⟨(p:Int), -1⟩),(Ah false 407 ⟨(p:Int), -1⟩),(Ah (win (y8.Af.xs.length:Int) 1 8) 408 ⟨(p:Int), -1⟩)]⟩ (EP hw97 (i:=4) [(Ah (AX c p) 405 ⟨(p:Int), -1⟩),(Ah (win y8.AY 0 15) 406 ⟨(p:Int), -1⟩),(Ah false 407 ⟨(p:Int), -1⟩),(Ah (win (y8.Af.xs.length:Int) 1 8) 408 ⟨(p:Int), -1⟩)]) (show 4≤1000 by decide)) (fun n98 hn99 => ?_)
      replace hn99:n75+1≤n98:=hn99
      refine BC 37 ?_
      refine BH o0 [1,2,4,5,50,6] [] [(1,Ac p),(2,pt z),(AU z),(AZ z),(Rl c p y8),(6,pt n98)] ⟨w,n98+1,[(Ak w),(Bl c z),(Bv z),(Bq y8 z),(Lm c p y8 n75),(bk n98 #[i6 0,i6 0,i6 0] 73)]⟩ [0,1,2,3] Ae (.inr rfl) ?_
      refine MJ [0,1,2,3,5,4] [(Ak w),(Bl c z),(Bv z),(Bq y8 z),(bk n98 #[i6 0,i6 0,i6 0] 73),(Lm c p y8 n75)] rfl rfl ?_
      refine DU [1,2,4,5,6,50] [(1,Ac p),(2,pt z),(AU z),(AZ z),(6,pt n98),(Rl c p y8)] ?_
      exact hv87 ⟨(n98+1,n98,n75),by first | omega | (dsimp only;omega)⟩
     refine BH o0 [1,2,4,5,49,6] [] [(1,Ac p),(2,pt z),(AU z),(AZ z),(49,.slice (some ⟨n75,0,none⟩) 4 4),(6,pt (n75+1))] ⟨w,n75+2,[(Ak w),(Bl c z),(Bv z),(Bq y8 z),(Lm c p y8 n75),(bk (n75+1) #[i6 0,i6 0,i6 0] 73)]⟩ [0,1,2,3] Ae (.inr rfl) ?_
     refine MJ [0,1,2,3,5,4] [(Ak w),(Bl c z),(Bv z),(Bq y8 z),(bk (n75+1) #[i6 0,i6 0,i6 0] 73),(Lm c p y8 n75)] rfl rfl ?_
     refine DU [1,2,4,5,6,49] [(1,Ac p),(2,pt z),(AU z),(AZ z),(6,pt (n75+1)),(49,.slice (some ⟨n75,0,none⟩) 4 4)] ?_
     exact hv92 ⟨(n75+2,n75+1,n75),by first | omega | (dsimp only;omega)⟩
    refine BH o0 [1,2,4,5,19,30,41,48,6] [] [(1,Ac p),(2,pt z),(AU z),(AZ z),(Lc c p),(QS p y8),(Ru p),(La p y8),(6,pt n75)] ⟨w,n75+1,[(Ak w),(Bl c z),(Bv z),(Bq y8 z),(bk n75 #[i6 0,i6 0,i6 0] 73)]⟩ [0,1,2,3] Ae (.inr rfl) ?_
    refine DU [6,1,2,4,5,19,30,41,48] [(6,pt n75),(1,Ac p),(2,pt z),(AU z),(AZ z),(Lc c p),(QS p y8),(Ru p),(La p y8)] ?_
    exact hv77 ⟨(n75+1,n75),by first | omega | (dsimp only;omega)⟩
   rintro⟨⟨n59,b60,b61⟩,hJ100⟩
   simp only at hJ100
   show E _ _ [(1,Ac p),(2,pt z),(AU z),(AZ z),(6,pt b61)] _ ⟨w,n59,[(Ak w),(Bl c z),(Bv z),(Bq y8 z),(bk b60 #[i6 ((Ah (AX c p) 405 ⟨(p:Int), -1⟩).e),i6 ((Ah (AX c p) 405 ⟨(p:Int), -1⟩).Ai.First),i6 ((Ah (AX c p) 405 ⟨(p:Int), -1⟩).Ai.Second),i6 ((Ah (win y8.AY 0 15) 406 ⟨(p:Int), -1⟩).e),i6 ((Ah (win y8.AY 0 15) 406 ⟨(p:Int), -1⟩).Ai.First),i6 ((Ah (win y8.AY 0 15) 406 ⟨(p:Int), -1⟩).Ai.Second),i6 ((Ah false 407 ⟨(p:Int), -1⟩).e),i6 ((Ah false 407 ⟨(p:Int), -1⟩).Ai.First),i6 ((Ah false 407 ⟨(p:Int), -1⟩).Ai.Second),i6 ((Ah (win (y8.Af.xs.length:Int) 1 8) 408 ⟨(p:Int), -1⟩).e),i6 ((Ah (win (y8.Af.xs.length:Int) 1 8) 408 ⟨(p:Int), -1⟩).Ai.First),i6 ((Ah (win (y8.Af.xs.length:Int) 1 8) 408 ⟨(p:Int), -1⟩).Ai.Second)] 73),(ZaW c p y8 b61)]⟩ _ _ _
   refine Cb [0,1,2,3,5] [(Ak w),(Bl c z),(Bv z),(Bq y8 z),(ZaW c p y8 b61)] rfl rfl ?_
   have eA:Bc (G6 c p)=(Bc [(Ah (AX c p) 405 ⟨(p:Int), -1⟩),(Ah (win y8.AY 0 15) 406 ⟨(p:Int), -1⟩),(Ah false 407 ⟨(p:Int), -1⟩),(Ah (win (y8.Af.xs.length:Int) 1 8) 408 ⟨(p:Int), -1⟩)]):=by have e0:EQ c p=y8:=hy8.symm;unfold G6;simp only[e0];simp[h11,h13]
   refine BK [1,2,4,5,6] [(1,Ac p),(2,pt z),(AU z),(AZ z),(6,pt b61)] ?_
   refine BD (fun a w' hs=>⟨n59,b61,by omega,(by(try dsimp only[Ya,ZaW,Bv,Bq,Bl,La,QS,PE,Lc,Ru,QT,AU,AZ,D6]at hs ⊢);rw[eA];exact hs)⟩)
  have hd101:=FQ h11
  by_cases h102:(win y8.DI 0 16)=true
  ·have hd103:=EE h102
   refine Eh 38 [0,1,2,3] [(Ak w),(Bl c z),(Bv z),(Bq y8 z)] rfl rfl ?_
   refine Dj [(0,(an 7 1)),(1,o0),(3,o0),(6,o0),(7,(a1 3)),(14,o0),(17,o0),(18,(a1 3)),(25,o0),(28,o0),(29,(a1 3)),(30,o0),(32,o0)] [1,2,4,5,14,15,17,21,28,32,39,44,46] [Qb z,Qb z,Qb z,Qb z,Qb z,Qb z,Qb z,Qb (z+2),Qb (z+2),Qb (z+2)] [true,true,false,true,false,false,true,true,false,false,false,false,false,false,true,false,false,true,true,false,false,false,false,false,false,true,false,false,true,true,true,false,true,false,false,false,false,false,false] [(1,Ac p),(2,pt z),(AU z),(AZ z),(14,.agg (Aj.arr c)),(15,Ac p),(17,Ac p),(21,i6 y8.DK),(28,Ac p),(32,i6 y8.DI),(39,Ac p),(QT y8),(46,Ac p)] ⟨rfl,rfl,rfl,rfl,rfl,rfl,rfl,rfl,rfl,rfl,Ae⟩ ?_
   refine Qx (fun x:{p:Nat×Nat×Nat // z+3≤p.1∧z+3≤p.2.1∧z+3≤p.2.2}=>([(1,Ac p),(2,pt z),(AU z),(AZ z),(6,pt x.1.2.2)],⟨w,x.1.1,[(Ak w),(Bl c z),(Bv z),(Bq y8 z),(.blk x.1.2.1 (.cells #[i6 ((Ah (AX c p) 405 ⟨(p:Int), -1⟩).e),i6 ((Ah (AX c p) 405 ⟨(p:Int), -1⟩).Ai.First),i6 ((Ah (AX c p) 405 ⟨(p:Int), -1⟩).Ai.Second),i6 ((Ah false 406 ⟨(p:Int), -1⟩).e),i6 ((Ah false 406 ⟨(p:Int), -1⟩).Ai.First),i6 ((Ah false 406 ⟨(p:Int), -1⟩).Ai.Second),i6 ((Ah (win y8.Bi 0 16) 407 ⟨(p:Int), -1⟩).e),i6 ((Ah (win y8.Bi 0 16) 407 ⟨(p:Int), -1⟩).Ai.First),i6 ((Ah (win y8.Bi 0 16) 407 ⟨(p:Int), -1⟩).Ai.Second),i6 ((Ah (win (y8.Af.xs.length:Int) 1 8) 408 ⟨(p:Int), -1⟩).e),i6 ((Ah (win (y8.Af.xs.length:Int) 1 8) 408 ⟨(p:Int), -1⟩).Ai.First),i6 ((Ah (win (y8.Af.xs.length:Int) 1 8) 408 ⟨(p:Int), -1⟩).Ai.Second)] 73 (0,0)) true),(.blk x.1.2.2 (.cells (Ar.arr (Bc [(Ah (AX c p) 405 ⟨(p:Int), -1⟩),(Ah false 406 ⟨(p:Int), -1⟩),(Ah (win y8.Bi 0 16) 407 ⟨(p:Int), -1⟩),(Ah (win (y8.Af.xs.length:Int) 1 8) 408 ⟨(p:Int), -1⟩)])) 73 (0,0)) true)]⟩)) (fun hK => ?_) ?_
   ·refine Qg 37 6 [.cl 2 (.bool (AX c p)),.cl 4 (.agg #[(Ac p),i6 (-1)]),.cl 5 (.agg (Ar.arr (Ah (AX c p) 405 ⟨(p:Int), -1⟩))),.cl 8 (.bool (win y8.DK 0 2)),.tk 9 (ov (.bool false)),.tk 10 o0,.tk 11 o0,.tk 12 o0,.tk 13 o0,.cl 15 (.agg #[(Ac p),i6 (-1)]),.cl 16 (.agg (Ar.arr (Ah false 406 ⟨(p:Int), -1⟩))),.cl 19 (.bool (win y8.DI 0 16)),.tk 20 (ov (.bool true)),.tk 21 o0,.tk 22 (a1 3),.cl 23 (.bool (win y8.Bi 0 16)),.tk 24 o0,.cl 26 (.agg #[(Ac p),i6 (-1)]),.cl 27 (.agg (Ar.arr (Ah (win y8.Bi 0 16) 407 ⟨(p:Int), -1⟩))),.cl 31 (.bool (win (y8.Af.xs.length:Int) 1 8)),.cl 33 (.agg #[(Ac p),i6 (-1)]),.cl 34 (.agg (Ar.arr (Ah (win (y8.Af.xs.length:Int) 1 8) 408 ⟨(p:Int), -1⟩)))] [1,2,4,5,19,30,41,48] [(66,#[.agg (Aj.arr c),Ac p],.bool (AX c p)),(67,#[(Ac p)],.agg #[(Ac p),i6 (-1)]),(41,#[.bool (AX c p),i6 405,.agg #[(Ac p),i6 (-1)]],.agg (Ar.arr (Ah (AX c p) 405 ⟨(p:Int), -1⟩))),(42,#[i6 y8.DK,i6 0,i6 2],.bool (win y8.DK 0 2)),(67,#[(Ac p)],.agg #[(Ac p),i6 (-1)]),(41,#[.bool false,i6 406,.agg #[(Ac p),i6 (-1)]],.agg (Ar.arr (Ah false 406 ⟨(p:Int), -1⟩))),(42,#[i6 y8.DI,i6 0,i6 16],.bool (win y8.DI 0 16)),(42,#[i6 y8.Bi,i6 0,i6 16],.bool (win y8.Bi 0 16)),(67,#[(Ac p)],.agg #[(Ac p),i6 (-1)]),(41,#[.bool (win y8.Bi 0 16),i6 407,.agg #[(Ac p),i6 (-1)]],.agg (Ar.arr (Ah (win y8.Bi 0 16) 407 ⟨(p:Int), -1⟩))),(42,#[(Ac y8.Af.xs.length),i6 1,i6 8],.bool (win (y8.Af.xs.length:Int) 1 8)),(67,#[(Ac p)],.agg #[(Ac p),i6 (-1)]),(41,#[.bool (win (y8.Af.xs.length:Int) 1 8),i6 408,.agg #[(Ac p),i6 (-1)]],.agg (Ar.arr (Ah (win (y8.Af.xs.length:Int) 1 8) 408 ⟨(p:Int), -1⟩)))] (DF 35 4) [Value.bool (win y8.DK 0 2)=Value.bool false,Value.bool (win y8.DI 0 16)=Value.bool true,Qb (z+2)] [(1,Ac p),(2,pt z),(AU z),(AZ z),(Lc c p),(Rk p),(PE p y8),(La p y8)] (.cells #[i6 0,i6 0,i6 0] 73 (0,0)) [0,1,2,3] ⟨(congrArg Value.bool (Bool.eq_false_iff.2 h11)),(congrArg Value.bool h102),rfl,Ae⟩ ⟨fun w107 hw107=>Tv w107 c (hc.ext (hw107.ext rfl) (fun _ h=>h)) p hp,fun w108 hw108=>DR w108 (p:Int),fun w109 hw109=>Bz w109 (hL.ext (hw109.ext rfl)) (AX c p) 405 (p:Int) (-1),fun w110 hw110=>Cj w110 y8.DK 0 2,fun w111 hw111=>DR w111 (p:Int),fun w112 hw112=>Bz w112 (hL.ext (hw112.ext rfl)) false 406 (p:Int) (-1),fun w113 hw113=>Cj w113 y8.DI 0 16,fun w114 hw114=>Cj w114 y8.Bi 0 16,fun w115 hw115=>DR w115 (p:Int),fun w116 hw116=>Bz w116 (hL.ext (hw116.ext rfl)) (win y8.Bi 0 16) 407 (p:Int) (-1),fun w117 hw117=>Cj w117 (y8.Af.xs.length:Int) 1 8,fun w118 hw118=>DR w118 (p:Int),fun w119 hw119=>Bz w119 (hL.ext (hw119.ext rfl)) (win (y8.Af.xs.length:Int) 1 8) 408 (p:Int) (-1),Ae⟩ ?_ (fun hv122 n120 hn121 => ?_)
    ·rintro⟨⟨n123,b124⟩,hb125⟩
     simp only at hb125
     refine BC 35 ?_
     refine BH o0 [6,1,2,4,5,49] [] [(6,pt b124),(1,Ac p),(2,pt z),(AU z),(AZ z),(49,.slice (some ⟨n123,0,none⟩) 4 4)] ⟨w,n123+1,[(Ak w),(Bl c z),(Bv z),(Bq y8 z),(bk b124 #[i6 0,i6 0,i6 0] 73),(Nl c p y8 n123)]⟩ [0,1,2,3] Ae (.inr rfl) ?_
     refine BC 36 ?_
     refine Ht 65 #[.slice (some ⟨n123,0,none⟩) 4 4] (some 50) (.agg (Ar.arr (Bc [(Ah (AX c p) 405 ⟨(p:Int), -1⟩),(Ah false 406 ⟨(p:Int), -1⟩),(Ah (win y8.Bi 0 16) 407 ⟨(p:Int), -1⟩),(Ah (win (y8.Af.xs.length:Int) 1 8) 408 ⟨(p:Int), -1⟩)]))) [6,1,2,4,5,50] [(6,pt b124),(1,Ac p),(2,pt z),(AU z),(AZ z),(Rw c p y8)] [0,1,2,3] (fun w126 hw126=>DZ w126 (hL.ext (hw126.ext rfl)) ⟨some ⟨n123,0,none⟩,4,[(Ah (AX c p) 405 ⟨(p:Int), -1⟩),(Ah false 406 ⟨(p:Int), -1⟩),(Ah (win y8.Bi 0 16) 407 ⟨(p:Int), -1⟩),(Ah (win (y8.Af.xs.length:Int) 1 8) 408 ⟨(p:Int), -1⟩)]⟩ (EP hw126 (i:=5) [(Ah (AX c p) 405 ⟨(p:Int), -1⟩),(Ah false 406 ⟨(p:Int), -1⟩),(Ah (win y8.Bi 0 16) 407 ⟨(p:Int), -1⟩),(Ah (win (y8.Af.xs.length:Int) 1 8) 408 ⟨(p:Int), -1⟩)]) (show 4≤1000 by decide)) (fun n127 hn128 => ?_)
     replace hn128:n123+1≤n127:=hn128
     refine BC 38 ?_
     refine BH (an 3 4) [6,1,2,4,5] [Qb b124,Qb b124,Qb b124] [(6,pt b124),(1,Ac p),(2,pt z),(AU z),(AZ z)] ⟨w,n127,[(Ak w),(Bl c z),(Bv z),(Bq y8 z),(ZaF c p y8 b124),(Nl c p y8 n123)]⟩ [] ⟨rfl,rfl,rfl,Ae⟩ (.inl rfl) ?_
     refine Es 39 [0,1,2,3,4,5] [(Ak w),(Bl c z),(Bv z),(Bq y8 z),(ZaF c p y8 b124),(Nl c p y8 n123)] rfl rfl ?_
     refine CU ?_
     refine BK [1,2,4,5,6] [(1,Ac p),(2,pt z),(AU z),(AZ z),(6,pt b124)] ?_
     refine Cb [0,1,2,3,5,4] [(Ak w),(Bl c z),(Bv z),(Bq y8 z),(Nl c p y8 n123),(ZaF c p y8 b124)] rfl rfl ?_
     exact hK ⟨(n127,n123,b124),by first | omega | (dsimp only;omega)⟩
    replace hn121:z+3≤n120:=hn121
    refine Oy (fun x:{p:Nat×Nat×Nat // n120≤p.1∧n120≤p.2.1∧n120≤p.2.2}=>[(1,Ac p),(2,pt z),(AU z),(AZ z),(6,pt x.1.2.1),(Rw c p y8)]) (fun x=>⟨w,x.1.1,[(Ak w),(Bl c z),(Bv z),(Bq y8 z),(.blk x.1.2.1 (.cells #[i6 0,i6 0,i6 0] 73 (0,0)) true),(.blk x.1.2.2 (.cells #[i6 ((Ah (AX c p) 405 ⟨(p:Int), -1⟩).e),i6 ((Ah (AX c p) 405 ⟨(p:Int), -1⟩).Ai.First),i6 ((Ah (AX c p) 405 ⟨(p:Int), -1⟩).Ai.Second),i6 ((Ah false 406 ⟨(p:Int), -1⟩).e),i6 ((Ah false 406 ⟨(p:Int), -1⟩).Ai.First),i6 ((Ah false 406 ⟨(p:Int), -1⟩).Ai.Second),i6 ((Ah (win y8.Bi 0 16) 407 ⟨(p:Int), -1⟩).e),i6 ((Ah (win y8.Bi 0 16) 407 ⟨(p:Int), -1⟩).Ai.First),i6 ((Ah (win y8.Bi 0 16) 407 ⟨(p:Int), -1⟩).Ai.Second),i6 ((Ah (win (y8.Af.xs.length:Int) 1 8) 408 ⟨(p:Int), -1⟩).e),i6 ((Ah (win (y8.Af.xs.length:Int) 1 8) 408 ⟨(p:Int), -1⟩).Ai.First),i6 ((Ah (win (y8.Af.xs.length:Int) 1 8) 408 ⟨(p:Int), -1⟩).Ai.Second)] 73 (0,0)) true)]⟩) 1 (DF 38 1) ?_ (fun hv132 => ?_)
    ·rintro⟨⟨n129,b130,b131⟩,hb133⟩
     simp only at hb133
     show Wg _ _ [(1,Ac p),(2,pt z),(AU z),(AZ z),(6,pt b130),(Rw c p y8)] _ ⟨w,n129,[(Ak w),(Bl c z),(Bv z),(Bq y8 z),(bk b130 #[i6 0,i6 0,i6 0] 73),(Ls c p y8 b131)]⟩ _ _ _ _ _ _ _
     refine BC 38 ?_
     refine BH (an 3 4) [1,2,4,5,6] [Qb b130,Qb b130,Qb b130] [(1,Ac p),(2,pt z),(AU z),(AZ z),(6,pt b130)] ⟨w,n129,[(Ak w),(Bl c z),(Bv z),(Bq y8 z),(Zbc c p y8 b130),(Ls c p y8 b131)]⟩ [] ⟨rfl,rfl,rfl,Ae⟩ (.inl rfl) ?_
     refine Es 39 [0,1,2,3,4,5] [(Ak w),(Bl c z),(Bv z),(Bq y8 z),(Zbc c p y8 b130),(Ls c p y8 b131)] rfl rfl ?_
     refine CU ?_
     refine BK [1,2,4,5,6] [(1,Ac p),(2,pt z),(AU z),(AZ z),(6,pt b130)] ?_
     refine Cb [0,1,2,3,5,4] [(Ak w),(Bl c z),(Bv z),(Bq y8 z),(Ls c p y8 b131),(Zbc c p y8 b130)] rfl rfl ?_
     exact hK ⟨(n129,b131,b130),by first | omega | (dsimp only;omega)⟩
    refine Oy (fun x:{p:Nat×Nat×Nat // n120≤p.1∧n120≤p.2.1∧n120≤p.2.2}=>[(1,Ac p),(2,pt z),(AU z),(AZ z),(6,pt x.1.2.1),(49,.slice (some ⟨x.1.2.2,0,none⟩) 4 4)]) (fun x=>⟨w,x.1.1,[(Ak w),(Bl c z),(Bv z),(Bq y8 z),(.blk x.1.2.1 (.cells #[i6 0,i6 0,i6 0] 73 (0,0)) true),(.blk x.1.2.2 (.cells #[i6 ((Ah (AX c p) 405 ⟨(p:Int), -1⟩).e),i6 ((Ah (AX c p) 405 ⟨(p:Int), -1⟩).Ai.First),i6 ((Ah (AX c p) 405 ⟨(p:Int), -1⟩).Ai.Second),i6 ((Ah false 406 ⟨(p:Int), -1⟩).e),i6 ((Ah false 406 ⟨(p:Int), -1⟩).Ai.First),i6 ((Ah false 406 ⟨(p:Int), -1⟩).Ai.Second),i6 ((Ah (win y8.Bi 0 16) 407 ⟨(p:Int), -1⟩).e),i6 ((Ah (win y8.Bi 0 16) 407 ⟨(p:Int), -1⟩).Ai.First),i6 ((Ah (win y8.Bi 0 16) 407 ⟨(p:Int), -1⟩).Ai.Second),i6 ((Ah (win (y8.Af.xs.length:Int) 1 8) 408 ⟨(p:Int), -1⟩).e),i6 ((Ah (win (y8.Af.xs.length:Int) 1 8) 408 ⟨(p:Int), -1⟩).Ai.First),i6 ((Ah (win (y8.Af.xs.length:Int) 1 8) 408 ⟨(p:Int), -1⟩).Ai.Second)] 73 (0,0)) true)]⟩) 2 [true,true,true,true,true,true,true,true,true,true,true,true,true,true,true,true,true,true,true,true,true,true,true,true,true,true,true,true,true,true,true,true,true,true,true,true,false,true,false] ?_ (fun hv137 => ?_)
    ·rintro⟨⟨n134,b135,b136⟩,hb138⟩
     simp only at hb138
     show Wg _ _ [(1,Ac p),(2,pt z),(AU z),(AZ z),(6,pt b135),(49,.slice (some ⟨b136,0,none⟩) 4 4)] _ ⟨w,n134,[(Ak w),(Bl c z),(Bv z),(Bq y8 z),(bk b135 #[i6 0,i6 0,i6 0] 73),(bk b136 #[i6 ((Ah (AX c p) 405 ⟨(p:Int), -1⟩).e),i6 ((Ah (AX c p) 405 ⟨(p:Int), -1⟩).Ai.First),i6 ((Ah (AX c p) 405 ⟨(p:Int), -1⟩).Ai.Second),i6 ((Ah false 406 ⟨(p:Int), -1⟩).e),i6 ((Ah false 406 ⟨(p:Int), -1⟩).Ai.First),i6 ((Ah false 406 ⟨(p:Int), -1⟩).Ai.Second),i6 ((Ah (win y8.Bi 0 16) 407 ⟨(p:Int), -1⟩).e),i6 ((Ah (win y8.Bi 0 16) 407 ⟨(p:Int), -1⟩).Ai.First),i6 ((Ah (win y8.Bi 0 16) 407 ⟨(p:Int), -1⟩).Ai.Second),i6 ((Ah (win (y8.Af.xs.length:Int) 1 8) 408 ⟨(p:Int), -1⟩).e),i6 ((Ah (win (y8.Af.xs.length:Int) 1 8) 408 ⟨(p:Int), -1⟩).Ai.First),i6 ((Ah (win (y8.Af.xs.length:Int) 1 8) 408 ⟨(p:Int), -1⟩).Ai.Second)] 73)]⟩ _ _ _ _ _ _ _
     refine BC 36 ?_
     refine Ht 65 #[.slice (some ⟨b136,0,none⟩) 4 4] (some 50) (.agg (Ar.arr (Bc [(Ah (AX c p) 405 ⟨(p:Int), -1⟩),(Ah false 406 ⟨(p:Int), -1⟩),(Ah (win y8.Bi 0 16) 407 ⟨(p:Int), -1⟩),(Ah (win (y8.Af.xs.length:Int) 1 8) 408 ⟨(p:Int), -1⟩)]))) [1,2,4,5,6,50] [(1,Ac p),(2,pt z),(AU z),(AZ z),(6,pt b135),(Rw c p y8)] [0,1,2,3] (fun w139 hw139=>DZ w139 (hL.ext (hw139.ext rfl)) ⟨some ⟨b136,0,none⟩,4,[(Ah (AX c p) 405 ⟨(p:Int), -1⟩),(Ah false 406 ⟨(p:Int), -1⟩),(Ah (win y8.Bi 0 16) 407 ⟨(p:Int), -1⟩),(Ah (win (y8.Af.xs.length:Int) 1 8) 408 ⟨(p:Int), -1⟩)]⟩ (EP hw139 (i:=5) [(Ah (AX c p) 405 ⟨(p:Int), -1⟩),(Ah false 406 ⟨(p:Int), -1⟩),(Ah (win y8.Bi 0 16) 407 ⟨(p:Int), -1⟩),(Ah (win (y8.Af.xs.length:Int) 1 8) 408 ⟨(p:Int), -1⟩)]) (show 4≤1000 by decide)) (fun n140 hn141 => ?_)
     replace hn141:n134≤n140:=hn141
     refine DU [1,2,4,5,6,50] [(1,Ac p),(2,pt z),(AU z),(AZ z),(6,pt b135),(Rw c p y8)] ?_
     exact hv132 ⟨(n140,b135,b136),by first | omega | (dsimp only;omega)⟩
    refine JC [35,37] ?_
    refine List.forall_mem_cons.2 ⟨?_,List.forall_mem_cons.2 ⟨?_,fun _ h=>absurd h List.not_mem_nil⟩⟩
    ·refine BH o0 [1,2,4,5,49] [] [(1,Ac p),(2,pt z),(AU z),(AZ z),(49,.slice (some ⟨n120,0,none⟩) 4 4)] ⟨w,n120+1,[(Ak w),(Bl c z),(Bv z),(Bq y8 z),(XN c p y8 n120)]⟩ [0,1,2,3] Ae (.inr rfl) ?_
     refine JC [36,37] ?_
     refine List.forall_mem_cons.2 ⟨?_,List.forall_mem_cons.2 ⟨?_,fun _ h=>absurd h List.not_mem_nil⟩⟩
     ·refine Ht 65 #[.slice (some ⟨n120,0,none⟩) 4 4] (some 50) (.agg (Ar.arr (Bc [(Ah (AX c p) 405 ⟨(p:Int), -1⟩),(Ah false 406 ⟨(p:Int), -1⟩),(Ah (win y8.Bi 0 16) 407 ⟨(p:Int), -1⟩),(Ah (win (y8.Af.xs.length:Int) 1 8) 408 ⟨(p:Int), -1⟩)]))) [1,2,4,5,50] [(1,Ac p),(2,pt z),(AU z),(AZ z),(Rw c p y8)] [0,1,2,3] (fun w142 hw142=>DZ w142 (hL.ext (hw142.ext rfl)) ⟨some ⟨n120,0,none⟩,4,[(Ah (AX c p) 405 ⟨(p:Int), -1⟩),(Ah false 406 ⟨(p:Int), -1⟩),(Ah (win y8.Bi 0 16) 407 ⟨(p:Int), -1⟩),(Ah (win (y8.Af.xs.length:Int) 1 8) 408 ⟨(p:Int), -1⟩)]⟩ (EP hw142 (i:=4) [(Ah (AX c p) 405 ⟨(p:Int), -1⟩),(Ah false 406 ⟨(p:Int), -1⟩),(Ah (win y8.Bi 0 16) 407 ⟨(p:Int), -1⟩),(Ah (win (y8.Af.xs.length:Int) 1 8) 408 ⟨(p:Int), -1⟩)]) (show 4≤1000 by decide)) (fun n143 hn144 => ?_)
      replace hn144:n120+1≤n143:=hn144
      refine BC 37 ?_
      refine BH o0 [1,2,4,5,50,6] [] [(1,Ac p),(2,pt z),(AU z),(AZ z),(Rw c p y8),(6,pt n143)] ⟨w,n143+1,[(Ak w),(Bl c z),(Bv z),(Bq y8 z),(XN c p y8 n120),(bk n143 #[i6 0,i6 0,i6 0] 73)]⟩ [0,1,2,3] Ae (.inr rfl) ?_
      refine MJ [0,1,2,3,5,4] [(Ak w),(Bl c z),(Bv z),(Bq y8 z),(bk n143 #[i6 0,i6 0,i6 0] 73),(XN c p y8 n120)] rfl rfl ?_
      refine DU [1,2,4,5,6,50] [(1,Ac p),(2,pt z),(AU z),(AZ z),(6,pt n143),(Rw c p y8)] ?_
      exact hv132 ⟨(n143+1,n143,n120),by first | omega | (dsimp only;omega)⟩
     refine BH o0 [1,2,4,5,49,6] [] [(1,Ac p),(2,pt z),(AU z),(AZ z),(49,.slice (some ⟨n120,0,none⟩) 4 4),(6,pt (n120+1))] ⟨w,n120+2,[(Ak w),(Bl c z),(Bv z),(Bq y8 z),(XN c p y8 n120),(bk (n120+1) #[i6 0,i6 0,i6 0] 73)]⟩ [0,1,2,3] Ae (.inr rfl) ?_
     refine MJ [0,1,2,3,5,4] [(Ak w),(Bl c z),(Bv z),(Bq y8 z),(bk (n120+1) #[i6 0,i6 0,i6 0] 73),(XN c p y8 n120)] rfl rfl ?_
     refine DU [1,2,4,5,6,49] [(1,Ac p),(2,pt z),(AU z),(AZ z),(6,pt (n120+1)),(49,.slice (some ⟨n120,0,none⟩) 4 4)] ?_
     exact hv137 ⟨(n120+2,n120+1,n120),by first | omega | (dsimp only;omega)⟩
    refine BH o0 [1,2,4,5,19,30,41,48,6] [] [(1,Ac p),(2,pt z),(AU z),(AZ z),(Lc c p),(Rk p),(PE p y8),(La p y8),(6,pt n120)] ⟨w,n120+1,[(Ak w),(Bl c z),(Bv z),(Bq y8 z),(bk n120 #[i6 0,i6 0,i6 0] 73)]⟩ [0,1,2,3] Ae (.inr rfl) ?_
    refine DU [6,1,2,4,5,19,30,41,48] [(6,pt n120),(1,Ac p),(2,pt z),(AU z),(AZ z),(Lc c p),(Rk p),(PE p y8),(La p y8)] ?_
    exact hv122 ⟨(n120+1,n120),by first | omega | (dsimp only;omega)⟩
   rintro⟨⟨n104,b105,b106⟩,hJ145⟩
   simp only at hJ145
   show E _ _ [(1,Ac p),(2,pt z),(AU z),(AZ z),(6,pt b106)] _ ⟨w,n104,[(Ak w),(Bl c z),(Bv z),(Bq y8 z),(bk b105 #[i6 ((Ah (AX c p) 405 ⟨(p:Int), -1⟩).e),i6 ((Ah (AX c p) 405 ⟨(p:Int), -1⟩).Ai.First),i6 ((Ah (AX c p) 405 ⟨(p:Int), -1⟩).Ai.Second),i6 ((Ah false 406 ⟨(p:Int), -1⟩).e),i6 ((Ah false 406 ⟨(p:Int), -1⟩).Ai.First),i6 ((Ah false 406 ⟨(p:Int), -1⟩).Ai.Second),i6 ((Ah (win y8.Bi 0 16) 407 ⟨(p:Int), -1⟩).e),i6 ((Ah (win y8.Bi 0 16) 407 ⟨(p:Int), -1⟩).Ai.First),i6 ((Ah (win y8.Bi 0 16) 407 ⟨(p:Int), -1⟩).Ai.Second),i6 ((Ah (win (y8.Af.xs.length:Int) 1 8) 408 ⟨(p:Int), -1⟩).e),i6 ((Ah (win (y8.Af.xs.length:Int) 1 8) 408 ⟨(p:Int), -1⟩).Ai.First),i6 ((Ah (win (y8.Af.xs.length:Int) 1 8) 408 ⟨(p:Int), -1⟩).Ai.Second)] 73),(Yx c p y8 b106)]⟩ _ _ _
   refine Cb [0,1,2,3,5] [(Ak w),(Bl c z),(Bv z),(Bq y8 z),(Yx c p y8 b106)] rfl rfl ?_
   have eA:Bc (G6 c p)=(Bc [(Ah (AX c p) 405 ⟨(p:Int), -1⟩),(Ah false 406 ⟨(p:Int), -1⟩),(Ah (win y8.Bi 0 16) 407 ⟨(p:Int), -1⟩),(Ah (win (y8.Af.xs.length:Int) 1 8) 408 ⟨(p:Int), -1⟩)]):=by have e0:EQ c p=y8:=hy8.symm;unfold G6;simp only[e0];simp[h11,h102]
   refine BK [1,2,4,5,6] [(1,Ac p),(2,pt z),(AU z),(AZ z),(6,pt b106)] ?_
   refine BD (fun a w' hs=>⟨n104,b106,by omega,(by(try dsimp only[Yx,Bv,Bq,Bl,La,PE,Lc,Rk,QT,AU,AZ,D6]at hs ⊢);rw[eA];exact hs)⟩)
  have hd146:=FQ h102
  refine Eh 38 [0,1,2,3] [(Ak w),(Bl c z),(Bv z),(Bq y8 z)] rfl rfl ?_
  refine Dj [(0,(an 7 1)),(1,o0),(3,o0),(6,o0),(7,(a1 3)),(14,o0),(17,o0),(18,(a1 3)),(25,o0),(28,o0),(29,(a1 3)),(30,o0),(32,o0)] [1,2,4,5,14,15,17,21,28,32,39,44,46] [Qb z,Qb z,Qb z,Qb z,Qb z,Qb z,Qb z,Qb (z+2),Qb (z+2),Qb (z+2)] [true,true,false,true,false,false,true,true,false,false,false,false,false,false,true,false,false,true,true,false,false,false,false,false,false,true,false,false,true,true,true,false,true,false,false,false,false,false,false] [(1,Ac p),(2,pt z),(AU z),(AZ z),(14,.agg (Aj.arr c)),(15,Ac p),(17,Ac p),(21,i6 y8.DK),(28,Ac p),(32,i6 y8.DI),(39,Ac p),(QT y8),(46,Ac p)] ⟨rfl,rfl,rfl,rfl,rfl,rfl,rfl,rfl,rfl,rfl,Ae⟩ ?_
  refine Qx (fun x:{p:Nat×Nat×Nat // z+3≤p.1∧z+3≤p.2.1∧z+3≤p.2.2}=>([(1,Ac p),(2,pt z),(AU z),(AZ z),(6,pt x.1.2.2)],⟨w,x.1.1,[(Ak w),(Bl c z),(Bv z),(Bq y8 z),(.blk x.1.2.1 (.cells #[i6 ((Ah (AX c p) 405 ⟨(p:Int), -1⟩).e),i6 ((Ah (AX c p) 405 ⟨(p:Int), -1⟩).Ai.First),i6 ((Ah (AX c p) 405 ⟨(p:Int), -1⟩).Ai.Second),i6 ((Ah false 406 ⟨(p:Int), -1⟩).e),i6 ((Ah false 406 ⟨(p:Int), -1⟩).Ai.First),i6 ((Ah false 406 ⟨(p:Int), -1⟩).Ai.Second),i6 ((Ah false 407 ⟨(p:Int), -1⟩).e),i6 ((Ah false 407 ⟨(p:Int), -1⟩).Ai.First),i6 ((Ah false 407 ⟨(p:Int), -1⟩).Ai.Second),i6 ((Ah (win (y8.Af.xs.length:Int) 1 8) 408 ⟨(p:Int), -1⟩).e),i6 ((Ah (win (y8.Af.xs.length:Int) 1 8) 408 ⟨(p:Int), -1⟩).Ai.First),i6 ((Ah (win (y8.Af.xs.length:Int) 1 8) 408 ⟨(p:Int), -1⟩).Ai.Second)] 73 (0,0)) true),(.blk x.1.2.2 (.cells (Ar.arr (Bc [(Ah (AX c p) 405 ⟨(p:Int), -1⟩),(Ah false 406 ⟨(p:Int), -1⟩),(Ah false 407 ⟨(p:Int), -1⟩),(Ah (win (y8.Af.xs.length:Int) 1 8) 408 ⟨(p:Int), -1⟩)])) 73 (0,0)) true)]⟩)) (fun hK => ?_) ?_
  ·refine Qg 37 6 [.cl 2 (.bool (AX c p)),.cl 4 (.agg #[(Ac p),i6 (-1)]),.cl 5 (.agg (Ar.arr (Ah (AX c p) 405 ⟨(p:Int), -1⟩))),.cl 8 (.bool (win y8.DK 0 2)),.tk 9 (ov (.bool false)),.tk 10 o0,.tk 11 o0,.tk 12 o0,.tk 13 o0,.cl 15 (.agg #[(Ac p),i6 (-1)]),.cl 16 (.agg (Ar.arr (Ah false 406 ⟨(p:Int), -1⟩))),.cl 19 (.bool (win y8.DI 0 16)),.tk 20 (ov (.bool false)),.tk 21 o0,.tk 22 o0,.tk 23 o0,.tk 24 o0,.cl 26 (.agg #[(Ac p),i6 (-1)]),.cl 27 (.agg (Ar.arr (Ah false 407 ⟨(p:Int), -1⟩))),.cl 31 (.bool (win (y8.Af.xs.length:Int) 1 8)),.cl 33 (.agg #[(Ac p),i6 (-1)]),.cl 34 (.agg (Ar.arr (Ah (win (y8.Af.xs.length:Int) 1 8) 408 ⟨(p:Int), -1⟩)))] [1,2,4,5,19,30,41,48] [(66,#[.agg (Aj.arr c),Ac p],.bool (AX c p)),(67,#[(Ac p)],.agg #[(Ac p),i6 (-1)]),(41,#[.bool (AX c p),i6 405,.agg #[(Ac p),i6 (-1)]],.agg (Ar.arr (Ah (AX c p) 405 ⟨(p:Int), -1⟩))),(42,#[i6 y8.DK,i6 0,i6 2],.bool (win y8.DK 0 2)),(67,#[(Ac p)],.agg #[(Ac p),i6 (-1)]),(41,#[.bool false,i6 406,.agg #[(Ac p),i6 (-1)]],.agg (Ar.arr (Ah false 406 ⟨(p:Int), -1⟩))),(42,#[i6 y8.DI,i6 0,i6 16],.bool (win y8.DI 0 16)),(67,#[(Ac p)],.agg #[(Ac p),i6 (-1)]),(41,#[.bool false,i6 407,.agg #[(Ac p),i6 (-1)]],.agg (Ar.arr (Ah false 407 ⟨(p:Int), -1⟩))),(42,#[(Ac y8.Af.xs.length),i6 1,i6 8],.bool (win (y8.Af.xs.length:Int) 1 8)),(67,#[(Ac p)],.agg #[(Ac p),i6 (-1)]),(41,#[.bool (win (y8.Af.xs.length:Int) 1 8),i6 408,.agg #[(Ac p),i6 (-1)]],.agg (Ar.arr (Ah (win (y8.Af.xs.length:Int) 1 8) 408 ⟨(p:Int), -1⟩)))] (DF 35 4) [Value.bool (win y8.DK 0 2)=Value.bool false,Value.bool (win y8.DI 0 16)=Value.bool false] [(1,Ac p),(2,pt z),(AU z),(AZ z),(Lc c p),(Rk p),(Ru p),(La p y8)] (.cells #[i6 0,i6 0,i6 0] 73 (0,0)) [0,1,2,3] ⟨(congrArg Value.bool (Bool.eq_false_iff.2 h11)),(congrArg Value.bool (Bool.eq_false_iff.2 h102)),Ae⟩ ⟨fun w150 hw150=>Tv w150 c (hc.ext (hw150.ext rfl) (fun _ h=>h)) p hp,fun w151 hw151=>DR w151 (p:Int),fun w152 hw152=>Bz w152 (hL.ext (hw152.ext rfl)) (AX c p) 405 (p:Int) (-1),fun w153 hw153=>Cj w153 y8.DK 0 2,fun w154 hw154=>DR w154 (p:Int),fun w155 hw155=>Bz w155 (hL.ext (hw155.ext rfl)) false 406 (p:Int) (-1),fun w156 hw156=>Cj w156 y8.DI 0 16,fun w157 hw157=>DR w157 (p:Int),fun w158 hw158=>Bz w158 (hL.ext (hw158.ext rfl)) false 407 (p:Int) (-1),fun w159 hw159=>Cj w159 (y8.Af.xs.length:Int) 1 8,fun w160 hw160=>DR w160 (p:Int),fun w161 hw161=>Bz w161 (hL.ext (hw161.ext rfl)) (win (y8.Af.xs.length:Int) 1 8) 408 (p:Int) (-1),Ae⟩ ?_ (fun hv164 n162 hn163 => ?_)
   ·rintro⟨⟨n165,b166⟩,hb167⟩
    simp only at hb167
    refine BC 35 ?_
    refine BH o0 [6,1,2,4,5,49] [] [(6,pt b166),(1,Ac p),(2,pt z),(AU z),(AZ z),(49,.slice (some ⟨n165,0,none⟩) 4 4)] ⟨w,n165+1,[(Ak w),(Bl c z),(Bv z),(Bq y8 z),(bk b166 #[i6 0,i6 0,i6 0] 73),(Zq c p y8 n165)]⟩ [0,1,2,3] Ae (.inr rfl) ?_
    refine BC 36 ?_
    refine Ht 65 #[.slice (some ⟨n165,0,none⟩) 4 4] (some 50) (.agg (Ar.arr (Bc [(Ah (AX c p) 405 ⟨(p:Int), -1⟩),(Ah false 406 ⟨(p:Int), -1⟩),(Ah false 407 ⟨(p:Int), -1⟩),(Ah (win (y8.Af.xs.length:Int) 1 8) 408 ⟨(p:Int), -1⟩)]))) [6,1,2,4,5,50] [(6,pt b166),(1,Ac p),(2,pt z),(AU z),(AZ z),(QI c p y8)] [0,1,2,3] (fun w168 hw168=>DZ w168 (hL.ext (hw168.ext rfl)) ⟨some ⟨n165,0,none⟩,4,[(Ah (AX c p) 405 ⟨(p:Int), -1⟩),(Ah false 406 ⟨(p:Int), -1⟩),(Ah false 407 ⟨(p:Int), -1⟩),(Ah (win (y8.Af.xs.length:Int) 1 8) 408 ⟨(p:Int), -1⟩)]⟩ (EP hw168 (i:=5) [(Ah (AX c p) 405 ⟨(p:Int), -1⟩),(Ah false 406 ⟨(p:Int), -1⟩),(Ah false 407 ⟨(p:Int), -1⟩),(Ah (win (y8.Af.xs.length:Int) 1 8) 408 ⟨(p:Int), -1⟩)]) (show 4≤1000 by decide)) (fun n169 hn170 => ?_)
    replace hn170:n165+1≤n169:=hn170
    refine BC 38 ?_
    refine BH (an 3 4) [6,1,2,4,5] [Qb b166,Qb b166,Qb b166] [(6,pt b166),(1,Ac p),(2,pt z),(AU z),(AZ z)] ⟨w,n169,[(Ak w),(Bl c z),(Bv z),(Bq y8 z),(ZaV c p y8 b166),(Zq c p y8 n165)]⟩ [] ⟨rfl,rfl,rfl,Ae⟩ (.inl rfl) ?_
    refine Es 39 [0,1,2,3,4,5] [(Ak w),(Bl c z),(Bv z),(Bq y8 z),(ZaV c p y8 b166),(Zq c p y8 n165)] rfl rfl ?_
    refine CU ?_
    refine BK [1,2,4,5,6] [(1,Ac p),(2,pt z),(AU z),(AZ z),(6,pt b166)] ?_
    refine Cb [0,1,2,3,5,4] [(Ak w),(Bl c z),(Bv z),(Bq y8 z),(Zq c p y8 n165),(ZaV c p y8 b166)] rfl rfl ?_
    exact hK ⟨(n169,n165,b166),by first | omega | (dsimp only;omega)⟩
   replace hn163:z+3≤n162:=hn163
   refine Oy (fun x:{p:Nat×Nat×Nat // n162≤p.1∧n162≤p.2.1∧n162≤p.2.2}=>[(1,Ac p),(2,pt z),(AU z),(AZ z),(6,pt x.1.2.1),(QI c p y8)]) (fun x=>⟨w,x.1.1,[(Ak w),(Bl c z),(Bv z),(Bq y8 z),(.blk x.1.2.1 (.cells #[i6 0,i6 0,i6 0] 73 (0,0)) true),(.blk x.1.2.2 (.cells #[i6 ((Ah (AX c p) 405 ⟨(p:Int), -1⟩).e),i6 ((Ah (AX c p) 405 ⟨(p:Int), -1⟩).Ai.First),i6 ((Ah (AX c p) 405 ⟨(p:Int), -1⟩).Ai.Second),i6 ((Ah false 406 ⟨(p:Int), -1⟩).e),i6 ((Ah false 406 ⟨(p:Int), -1⟩).Ai.First),i6 ((Ah false 406 ⟨(p:Int), -1⟩).Ai.Second),i6 ((Ah false 407 ⟨(p:Int), -1⟩).e),i6 ((Ah false 407 ⟨(p:Int), -1⟩).Ai.First),i6 ((Ah false 407 ⟨(p:Int), -1⟩).Ai.Second),i6 ((Ah (win (y8.Af.xs.length:Int) 1 8) 408 ⟨(p:Int), -1⟩).e),i6 ((Ah (win (y8.Af.xs.length:Int) 1 8) 408 ⟨(p:Int), -1⟩).Ai.First),i6 ((Ah (win (y8.Af.xs.length:Int) 1 8) 408 ⟨(p:Int), -1⟩).Ai.Second)] 73 (0,0)) true)]⟩) 1 (DF 38 1) ?_ (fun hv174 => ?_)
   ·rintro⟨⟨n171,b172,b173⟩,hb175⟩
    simp only at hb175
    show Wg _ _ [(1,Ac p),(2,pt z),(AU z),(AZ z),(6,pt b172),(QI c p y8)] _ ⟨w,n171,[(Ak w),(Bl c z),(Bv z),(Bq y8 z),(bk b172 #[i6 0,i6 0,i6 0] 73),(Yg c p y8 b173)]⟩ _ _ _ _ _ _ _
    refine BC 38 ?_
    refine BH (an 3 4) [1,2,4,5,6] [Qb b172,Qb b172,Qb b172] [(1,Ac p),(2,pt z),(AU z),(AZ z),(6,pt b172)] ⟨w,n171,[(Ak w),(Bl c z),(Bv z),(Bq y8 z),(Zbd c p y8 b172),(Yg c p y8 b173)]⟩ [] ⟨rfl,rfl,rfl,Ae⟩ (.inl rfl) ?_
    refine Es 39 [0,1,2,3,4,5] [(Ak w),(Bl c z),(Bv z),(Bq y8 z),(Zbd c p y8 b172),(Yg c p y8 b173)] rfl rfl ?_
    refine CU ?_
    refine BK [1,2,4,5,6] [(1,Ac p),(2,pt z),(AU z),(AZ z),(6,pt b172)] ?_
    refine Cb [0,1,2,3,5,4] [(Ak w),(Bl c z),(Bv z),(Bq y8 z),(Yg c p y8 b173),(Zbd c p y8 b172)] rfl rfl ?_
    exact hK ⟨(n171,b173,b172),by first | omega | (dsimp only;omega)⟩
   refine Oy (fun x:{p:Nat×Nat×Nat // n162≤p.1∧n162≤p.2.1∧n162≤p.2.2}=>[(1,Ac p),(2,pt z),(AU z),(AZ z),(6,pt x.1.2.1),(49,.slice (some ⟨x.1.2.2,0,none⟩) 4 4)]) (fun x=>⟨w,x.1.1,[(Ak w),(Bl c z),(Bv z),(Bq y8 z),(.blk x.1.2.1 (.cells #[i6 0,i6 0,i6 0] 73 (0,0)) true),(.blk x.1.2.2 (.cells #[i6 ((Ah (AX c p) 405 ⟨(p:Int), -1⟩).e),i6 ((Ah (AX c p) 405 ⟨(p:Int), -1⟩).Ai.First),i6 ((Ah (AX c p) 405 ⟨(p:Int), -1⟩).Ai.Second),i6 ((Ah false 406 ⟨(p:Int), -1⟩).e),i6 ((Ah false 406 ⟨(p:Int), -1⟩).Ai.First),i6 ((Ah false 406 ⟨(p:Int), -1⟩).Ai.Second),i6 ((Ah false 407 ⟨(p:Int), -1⟩).e),i6 ((Ah false 407 ⟨(p:Int), -1⟩).Ai.First),i6 ((Ah false 407 ⟨(p:Int), -1⟩).Ai.Second),i6 ((Ah (win (y8.Af.xs.length:Int) 1 8) 408 ⟨(p:Int), -1⟩).e),i6 ((Ah (win (y8.Af.xs.length:Int) 1 8) 408 ⟨(p:Int), -1⟩).Ai.First),i6 ((Ah (win (y8.Af.xs.length:Int) 1 8) 408 ⟨(p:Int), -1⟩).Ai.Second)] 73 (0,0)) true)]⟩) 2 [true,true,true,true,true,true,true,true,true,true,true,true,true,true,true,true,true,true,true,true,true,true,true,true,true,true,true,true,true,true,true,true,true,true,true,true,false,true,false] ?_ (fun hv179 => ?_)
   ·rintro⟨⟨n176,b177,b178⟩,hb180⟩
    simp only at hb180
    show Wg _ _ [(1,Ac p),(2,pt z),(AU z),(AZ z),(6,pt b177),(49,.slice (some ⟨b178,0,none⟩) 4 4)] _ ⟨w,n176,[(Ak w),(Bl c z),(Bv z),(Bq y8 z),(bk b177 #[i6 0,i6 0,i6 0] 73),(bk b178 #[i6 ((Ah (AX c p) 405 ⟨(p:Int), -1⟩).e),i6 ((Ah (AX c p) 405 ⟨(p:Int), -1⟩).Ai.First),i6 ((Ah (AX c p) 405 ⟨(p:Int), -1⟩).Ai.Second),i6 ((Ah false 406 ⟨(p:Int), -1⟩).e),i6 ((Ah false 406 ⟨(p:Int), -1⟩).Ai.First),i6 ((Ah false 406 ⟨(p:Int), -1⟩).Ai.Second),i6 ((Ah false 407 ⟨(p:Int), -1⟩).e),i6 ((Ah false 407 ⟨(p:Int), -1⟩).Ai.First),i6 ((Ah false 407 ⟨(p:Int), -1⟩).Ai.Second),i6 ((Ah (win (y8.Af.xs.length:Int) 1 8) 408 ⟨(p:Int), -1⟩).e),i6 ((Ah (win (y8.Af.xs.length:Int) 1 8) 408 ⟨(p:Int), -1⟩).Ai.First),i6 ((Ah (win (y8.Af.xs.length:Int) 1 8) 408 ⟨(p:Int), -1⟩).Ai.Second)] 73)]⟩ _ _ _ _ _ _ _
    refine BC 36 ?_
    refine Ht 65 #[.slice (some ⟨b178,0,none⟩) 4 4] (some 50) (.agg (Ar.arr (Bc [(Ah (AX c p) 405 ⟨(p:Int), -1⟩),(Ah false 406 ⟨(p:Int), -1⟩),(Ah false 407 ⟨(p:Int), -1⟩),(Ah (win (y8.Af.xs.length:Int) 1 8) 408 ⟨(p:Int), -1⟩)]))) [1,2,4,5,6,50] [(1,Ac p),(2,pt z),(AU z),(AZ z),(6,pt b177),(QI c p y8)] [0,1,2,3] (fun w181 hw181=>DZ w181 (hL.ext (hw181.ext rfl)) ⟨some ⟨b178,0,none⟩,4,[(Ah (AX c p) 405 ⟨(p:Int), -1⟩),(Ah false 406 ⟨(p:Int), -1⟩),(Ah false 407 ⟨(p:Int), -1⟩),(Ah (win (y8.Af.xs.length:Int) 1 8) 408 ⟨(p:Int), -1⟩)]⟩ (EP hw181 (i:=5) [(Ah (AX c p) 405 ⟨(p:Int), -1⟩),(Ah false 406 ⟨(p:Int), -1⟩),(Ah false 407 ⟨(p:Int), -1⟩),(Ah (win (y8.Af.xs.length:Int) 1 8) 408 ⟨(p:Int), -1⟩)]) (show 4≤1000 by decide)) (fun n182 hn183 => ?_)
    replace hn183:n176≤n182:=hn183
    refine DU [1,2,4,5,6,50] [(1,Ac p),(2,pt z),(AU z),(AZ z),(6,pt b177),(QI c p y8)] ?_
    exact hv174 ⟨(n182,b177,b178),by first | omega | (dsimp only;omega)⟩
   refine JC [35,37] ?_
   refine List.forall_mem_cons.2 ⟨?_,List.forall_mem_cons.2 ⟨?_,fun _ h=>absurd h List.not_mem_nil⟩⟩
   ·refine BH o0 [1,2,4,5,49] [] [(1,Ac p),(2,pt z),(AU z),(AZ z),(49,.slice (some ⟨n162,0,none⟩) 4 4)] ⟨w,n162+1,[(Ak w),(Bl c z),(Bv z),(Bq y8 z),(VR c p y8 n162)]⟩ [0,1,2,3] Ae (.inr rfl) ?_
    refine JC [36,37] ?_
    refine List.forall_mem_cons.2 ⟨?_,List.forall_mem_cons.2 ⟨?_,fun _ h=>absurd h List.not_mem_nil⟩⟩
    ·refine Ht 65 #[.slice (some ⟨n162,0,none⟩) 4 4] (some 50) (.agg (Ar.arr (Bc [(Ah (AX c p) 405 ⟨(p:Int), -1⟩),(Ah false 406 ⟨(p:Int), -1⟩),(Ah false 407 ⟨(p:Int), -1⟩),(Ah (win (y8.Af.xs.length:Int) 1 8) 408 ⟨(p:Int), -1⟩)]))) [1,2,4,5,50] [(1,Ac p),(2,pt z),(AU z),(AZ z),(QI c p y8)] [0,1,2,3] (fun w184 hw184=>DZ w184 (hL.ext (hw184.ext rfl)) ⟨some ⟨n162,0,none⟩,4,[(Ah (AX c p) 405 ⟨(p:Int), -1⟩),(Ah false 406 ⟨(p:Int), -1⟩),(Ah false 407 ⟨(p:Int), -1⟩),(Ah (win (y8.Af.xs.length:Int) 1 8) 408 ⟨(p:Int), -1⟩)]⟩ (EP hw184 (i:=4) [(Ah (AX c p) 405 ⟨(p:Int), -1⟩),(Ah false 406 ⟨(p:Int), -1⟩),(Ah false 407 ⟨(p:Int), -1⟩),(Ah (win (y8.Af.xs.length:Int) 1 8) 408 ⟨(p:Int), -1⟩)]) (show 4≤1000 by decide)) (fun n185 hn186 => ?_)
     replace hn186:n162+1≤n185:=hn186
     refine BC 37 ?_
     refine BH o0 [1,2,4,5,50,6] [] [(1,Ac p),(2,pt z),(AU z),(AZ z),(QI c p y8),(6,pt n185)] ⟨w,n185+1,[(Ak w),(Bl c z),(Bv z),(Bq y8 z),(VR c p y8 n162),(bk n185 #[i6 0,i6 0,i6 0] 73)]⟩ [0,1,2,3] Ae (.inr rfl) ?_
     refine MJ [0,1,2,3,5,4] [(Ak w),(Bl c z),(Bv z),(Bq y8 z),(bk n185 #[i6 0,i6 0,i6 0] 73),(VR c p y8 n162)] rfl rfl ?_
     refine DU [1,2,4,5,6,50] [(1,Ac p),(2,pt z),(AU z),(AZ z),(6,pt n185),(QI c p y8)] ?_
     exact hv174 ⟨(n185+1,n185,n162),by first | omega | (dsimp only;omega)⟩
    refine BH o0 [1,2,4,5,49,6] [] [(1,Ac p),(2,pt z),(AU z),(AZ z),(49,.slice (some ⟨n162,0,none⟩) 4 4),(6,pt (n162+1))] ⟨w,n162+2,[(Ak w),(Bl c z),(Bv z),(Bq y8 z),(VR c p y8 n162),(bk (n162+1) #[i6 0,i6 0,i6 0] 73)]⟩ [0,1,2,3] Ae (.inr rfl) ?_
    refine MJ [0,1,2,3,5,4] [(Ak w),(Bl c z),(Bv z),(Bq y8 z),(bk (n162+1) #[i6 0,i6 0,i6 0] 73),(VR c p y8 n162)] rfl rfl ?_
    refine DU [1,2,4,5,6,49] [(1,Ac p),(2,pt z),(AU z),(AZ z),(6,pt (n162+1)),(49,.slice (some ⟨n162,0,none⟩) 4 4)] ?_
    exact hv179 ⟨(n162+2,n162+1,n162),by first | omega | (dsimp only;omega)⟩
   refine BH o0 [1,2,4,5,19,30,41,48,6] [] [(1,Ac p),(2,pt z),(AU z),(AZ z),(Lc c p),(Rk p),(Ru p),(La p y8),(6,pt n162)] ⟨w,n162+1,[(Ak w),(Bl c z),(Bv z),(Bq y8 z),(bk n162 #[i6 0,i6 0,i6 0] 73)]⟩ [0,1,2,3] Ae (.inr rfl) ?_
   refine DU [6,1,2,4,5,19,30,41,48] [(6,pt n162),(1,Ac p),(2,pt z),(AU z),(AZ z),(Lc c p),(Rk p),(Ru p),(La p y8)] ?_
   exact hv164 ⟨(n162+1,n162),by first | omega | (dsimp only;omega)⟩
  rintro⟨⟨n147,b148,b149⟩,hJ187⟩
  simp only at hJ187
  show E _ _ [(1,Ac p),(2,pt z),(AU z),(AZ z),(6,pt b149)] _ ⟨w,n147,[(Ak w),(Bl c z),(Bv z),(Bq y8 z),(bk b148 #[i6 ((Ah (AX c p) 405 ⟨(p:Int), -1⟩).e),i6 ((Ah (AX c p) 405 ⟨(p:Int), -1⟩).Ai.First),i6 ((Ah (AX c p) 405 ⟨(p:Int), -1⟩).Ai.Second),i6 ((Ah false 406 ⟨(p:Int), -1⟩).e),i6 ((Ah false 406 ⟨(p:Int), -1⟩).Ai.First),i6 ((Ah false 406 ⟨(p:Int), -1⟩).Ai.Second),i6 ((Ah false 407 ⟨(p:Int), -1⟩).e),i6 ((Ah false 407 ⟨(p:Int), -1⟩).Ai.First),i6 ((Ah false 407 ⟨(p:Int), -1⟩).Ai.Second),i6 ((Ah (win (y8.Af.xs.length:Int) 1 8) 408 ⟨(p:Int), -1⟩).e),i6 ((Ah (win (y8.Af.xs.length:Int) 1 8) 408 ⟨(p:Int), -1⟩).Ai.First),i6 ((Ah (win (y8.Af.xs.length:Int) 1 8) 408 ⟨(p:Int), -1⟩).Ai.Second)] 73),(Zax c p y8 b149)]⟩ _ _ _
  refine Cb [0,1,2,3,5] [(Ak w),(Bl c z),(Bv z),(Bq y8 z),(Zax c p y8 b149)] rfl rfl ?_
  have eA:Bc (G6 c p)=(Bc [(Ah (AX c p) 405 ⟨(p:Int), -1⟩),(Ah false 406 ⟨(p:Int), -1⟩),(Ah false 407 ⟨(p:Int), -1⟩),(Ah (win (y8.Af.xs.length:Int) 1 8) 408 ⟨(p:Int), -1⟩)]):=by have e0:EQ c p=y8:=hy8.symm;unfold G6;simp only[e0];simp[h11,h102]
  refine BK [1,2,4,5,6] [(1,Ac p),(2,pt z),(AU z),(AZ z),(6,pt b149)] ?_
  refine BD (fun a w' hs=>⟨n147,b149,by omega,(by(try dsimp only[Yx,Zax,Bv,Bq,Bl,La,PE,Lc,Ru,Rk,QT,AU,AZ,D6]at hs ⊢);rw[eA];exact hs)⟩)
 rintro a w' ⟨n9,b6,hn10,hs⟩
 refine(?_:G Tryd.prog 118 [(1,Ac p),(2,pt z),(AU z),(AZ z),(D6 b6)] [] ⟨w,n9,[(Ak w),(Bl c z),(Bv z),(Bq y8 z),(.blk b6 (.cells (Ar.arr (Bc (G6 c p))) 73 (0,0)) true)]⟩ _ _ _) a w' hs
 clear hs a w'
 refine WI (fun a w'=>∃ (n188:Nat),n9≤n188∧St 118 [(1,Ac p),(2,pt z),(AU z),(AZ z),(D6 b6)] [] ⟨w,n188,(JR c p y8 b6 z w)⟩ a w') ?_ ?_
 ·refine Az 5 0 [] [[o0]] [] [(1,Ac p),(2,pt z),(AU z),(AZ z),(D6 b6),(7,i6 0)] rfl Ae ?_
  refine Di (fun m a w'=>∃ (n191:Nat) (k:Nat),m=y8.Af.xs.length - k∧n9≤n191∧(k≤y8.Af.xs.length)∧St 118 [(1,Ac p),(2,pt z),(AU z),(AZ z),(D6 b6),(7,Ac k)] [] ⟨w,n191,[(Ak w),(Bl c z),(Bv z),(Bq y8 z),(.blk b6 (.cells (Ar.arr (FZ (Bc (G6 c p)) (ES c p) k)) 73 (0,0)) true)]⟩ a w') (y8.Af.xs.length - 0) ?_ ?_
  ·intro a w' hs;exact⟨n9,0,rfl,Nat.le_refl _,Nat.zero_le _,(by(try dsimp only[Bv,Bq,JS,Bl,AU,AZ,D6,JR]at hs ⊢);rw[MR];exact hs)⟩
  rintro m a w' ⟨n191,k,rfl,hn190,hkk,hs⟩
  refine(?_:G Tryd.prog 118 [(1,Ac p),(2,pt z),(AU z),(AZ z),(D6 b6),(7,Ac k)] [] ⟨w,n191,[(Ak w),(Bl c z),(Bv z),(Bq y8 z),(.blk b6 (.cells (Ar.arr (FZ (Bc (G6 c p)) (ES c p) k)) 73 (0,0)) true)]⟩ _ _ _) a w' hs
  clear hs a w'
  refine Ce <| Ce ?_
  by_cases h192:(k:Int)<(y8.Af.xs.length:Int)
  ·by_cases h193:(((FZ (Bc (G6 c p)) (ES c p) k).e:Int)==(0:Int)&&((((FZ (Bc (G6 c p)) (ES c p) k).Ai.First:Int)==(0:Int)&&(((FZ (Bc (G6 c p)) (ES c p) k).Ai.Second:Int)==(0:Int)&&true))&&true))=true
   ·refine Az 9 3 [1] [[o0,o0,(a1 3),o0,oT,o0,(an 3 4),(oa [.via 0 (i6 0),.via 0 (i6 0),.via 0 (i6 0)]),⟨.seq true,none⟩,o0],[(an 7 1),o0,o0]] [Qb (z+2),BT ((k:Int)<(y8.Af.xs.length:Int)),Qb b6,Qb b6,Qb b6,Old w 0 0 (i6 0),Old w 0 1 (i6 0),Old w 0 2 (i6 0),(((FZ (Bc (G6 c p)) (ES c p) k).e:Int)==(0:Int)&&((((FZ (Bc (G6 c p)) (ES c p) k).Ai.First:Int)==(0:Int)&&(((FZ (Bc (G6 c p)) (ES c p) k).Ai.Second:Int)==(0:Int)&&true))&&true))=true,Qb z,Qb z,Qb z,Qb z,Qb z,Qb z,Qb z] [(1,Ac p),(2,pt z),(AU z),(AZ z),(D6 b6),(7,Ac k),(63,.agg (Aj.arr c)),(64,Ac p),(65,Ac k)] rfl ⟨rfl,bt,rfl,rfl,rfl,A7 (hL.2 0 _ rfl),A7 (hL.2 1 _ rfl),A7 (hL.2 2 _ rfl),h193,rfl,rfl,rfl,rfl,rfl,rfl,rfl,Ae⟩ ?_
    refine Bf 68 #[.agg (Aj.arr c),Ac p,Ac k] (some 66) (.agg (Ar.arr (ES c p k))) (fun w194 hw194=>Zcr w194 (hL.ext (hw194.ext rfl)) c (hc.ext (hw194.ext rfl) (fun _ h=>h)) p k hp (by rw[←hy8];omega) hFr (bd_all hFr hpf (Vo (GZ.1 h193)).2)) (fun n195 (hn196:n191≤n195) => ?_)
    refine EY 5 0 [] [[(an 3 4)],[o0,(ov (i6 ((k+1:Nat):Int))),o0]] [Qb b6,Qb b6,Qb b6,Wr ((k:Int)+1) (((k+1:Nat):Int))] [(1,Ac p),(2,pt z),(AU z),(AZ z),(D6 b6),(7,i6 ((k+1:Nat):Int))] ⟨w,n195,[(Ak w),(Bl c z),(Bv z),(Bq y8 z),(bk b6 (Ar.arr (ES c p k)) 73)]⟩ rfl ⟨rfl,rfl,rfl,BQ,Ae⟩ ?_
    have eS:=Qp (GZ.1 h193)
    refine BK [1,2,4,5,6,7] [(1,Ac p),(2,pt z),(AU z),(AZ z),(D6 b6),(7,i6 ((k+1:Nat):Int))] ?_
    refine BD (fun a w' hs=>⟨y8.Af.xs.length - (k+1),by omega,n195,(k+1),rfl,by omega,by omega,(by(try dsimp only[Bv,Bq,JS,Bl,AU,AZ,D6,JR]at hs ⊢);rw[eS];exact hs)⟩)
   refine Az 8 0 [0] [[o0,o0,(a1 3),o0,oT,o0,(an 3 4),(oa [.via 0 (i6 0),.via 0 (i6 0),.via 0 (i6 0)]),⟨.seq false,none⟩,o0]] [Qb (z+2),BT ((k:Int)<(y8.Af.xs.length:Int)),Qb b6,Qb b6,Qb b6,Old w 0 0 (i6 0),Old w 0 1 (i6 0),Old w 0 2 (i6 0),(((FZ (Bc (G6 c p)) (ES c p) k).e:Int)==(0:Int)&&((((FZ (Bc (G6 c p)) (ES c p) k).Ai.First:Int)==(0:Int)&&(((FZ (Bc (G6 c p)) (ES c p) k).Ai.Second:Int)==(0:Int)&&true))&&true))=false] [(1,Ac p),(2,pt z),(AU z),(AZ z),(D6 b6),(7,Ac k),(60,.bool false)] rfl ⟨rfl,bt,rfl,rfl,rfl,A7 (hL.2 0 _ rfl),A7 (hL.2 1 _ rfl),A7 (hL.2 2 _ rfl),(Bool.eq_false_iff.2 h193),Ae⟩ ?_
   have eB:(IP c p)=(FZ (Bc (G6 c p)) (ES c p) k):=L8 (fun e=>h193 (GZ.2 e)) (by dsimp only[EQ];rw[←hy8];omega)
   refine BK [1,2,4,5,6] [(1,Ac p),(2,pt z),(AU z),(AZ z),(D6 b6)] ?_
   refine BD (fun a w' hs=>⟨n191,by omega,(by(try dsimp only[Bv,Bq,JS,Bl,AU,AZ,D6,JR]at hs ⊢);rw[eB];exact hs)⟩)
  refine Az 8 0 [0] [[o0,o0,(a1 3),o0,oF,o0,o0]] [Qb (z+2),BF ((k:Int)<(y8.Af.xs.length:Int))] [(1,Ac p),(2,pt z),(AU z),(AZ z),(D6 b6),(7,Ac k),(60,.bool false)] rfl ⟨rfl,bf,Ae⟩ ?_
  have eB:(IP c p)=(FZ (Bc (G6 c p)) (ES c p) k):=congrArg (FZ _ _) (by dsimp only[EQ];rw[←hy8];omega)
  refine BK [1,2,4,5,6] [(1,Ac p),(2,pt z),(AU z),(AZ z),(D6 b6)] ?_
  refine BD (fun a w' hs=>⟨n191,by omega,(by(try dsimp only[Bv,Bq,JS,Bl,AU,AZ,D6,JR]at hs ⊢);rw[eB];exact hs)⟩)
 rintro a w' ⟨n188,hn189,hs⟩
 refine(?_:G Tryd.prog 118 [(1,Ac p),(2,pt z),(AU z),(AZ z),(D6 b6)] [] ⟨w,n188,(JR c p y8 b6 z w)⟩ _ _ _) a w' hs
 clear hs a w'
 refine Ce <| Ce ?_
 by_cases h197:(((IP c p).e:Int)==(0:Int)&&((((IP c p).Ai.First:Int)==(0:Int)&&(((IP c p).Ai.Second:Int)==(0:Int)&&true))&&true))=true
 ·have hB0:=GZ.1 h197
  refine Az 6 0 [0] [[(an 3 4),(oa [.via 0 (i6 0),.via 0 (i6 0),.via 0 (i6 0)]),⟨.seq true,none⟩]] [Qb b6,Qb b6,Qb b6,Old w 0 0 (i6 0),Old w 0 1 (i6 0),Old w 0 2 (i6 0),(((IP c p).e:Int)==(0:Int)&&((((IP c p).Ai.First:Int)==(0:Int)&&(((IP c p).Ai.Second:Int)==(0:Int)&&true))&&true))=true] [(1,Ac p),(2,pt z),(AU z),(AZ z),(D6 b6),(69,.bool false)] rfl ⟨rfl,rfl,rfl,A7 (hL.2 0 _ rfl),A7 (hL.2 1 _ rfl),A7 (hL.2 2 _ rfl),h197,Ae⟩ ?_
  refine WI (fun a w'=>∃ (n198:Nat),n188≤n198∧St 118 [(1,Ac p),(2,pt z),(AU z),(AZ z),(D6 b6)] [] ⟨w,n198,[(Ak w),(Bl c z),(Bv z),(Bq y8 z),(.blk b6 (.cells (Ar.arr (Bc (H9 c p))) 73 (0,0)) true)]⟩ a w') ?_ ?_
  ·by_cases h200:(win y8.Entry 0 4095)=true
   ·have hd201:=EE h200
    by_cases h202:(8:Int)<(y8.Am.xs.length:Int)
    ·refine Eh 19 [0,1,2,3,4] (JR c p y8 b6 z w) rfl rfl ?_
     refine JB [.tk 0 o0,.tk 1 (a1 3),.tk 7 o0,.tk 10 o0,.tk 11 (a1 3),.tk 12 o0,.tk 13 oF,.tk 14 o0,.cl 2 (.bool (win y8.Entry 0 4095)),.tk 3 (ov (.bool true)),.tk 4 (an 8 3),.cl 5 (.bool (GK y8)),.tk 6 o0,.cl 8 (.agg #[(Ac p),i6 (-1)]),.cl 9 (.agg (Ar.arr (Ah (GK y8) 412 ⟨(p:Int), -1⟩))),.cl 15 (.agg #[(Ac p),i6 (-1)]),.cl 16 (.agg (Ar.arr (Ah false 413 ⟨(p:Int), -1⟩)))] [1,2,4,5,6,80,87] [(42,#[i6 y8.Entry,i6 0,i6 4095],.bool (win y8.Entry 0 4095)),(69,#[.agg (Ap.arr y8)],.bool (GK y8)),(67,#[(Ac p)],.agg #[(Ac p),i6 (-1)]),(41,#[.bool (GK y8),i6 412,.agg #[(Ac p),i6 (-1)]],.agg (Ar.arr (Ah (GK y8) 412 ⟨(p:Int), -1⟩))),(67,#[(Ac p)],.agg #[(Ac p),i6 (-1)]),(41,#[.bool false,i6 413,.agg #[(Ac p),i6 (-1)]],.agg (Ar.arr (Ah false 413 ⟨(p:Int), -1⟩)))] (DF 17 3) [Qb (z+2),Qb (z+2),BF ((y8.Am.xs.length:Int)≤8),Value.bool (win y8.Entry 0 4095)=Value.bool true,Qb (z+2),Qb (z+2),Qb (z+2),Qb (z+2),Qb (z+2),Qb (z+2),Qb (z+2),Qb (z+2)] [(1,Ac p),(2,pt z),(AU z),(AZ z),(D6 b6),(80,.agg (Ar.arr (Ah (GK y8) 412 ⟨(p:Int), -1⟩))),(87,.agg (Ar.arr (Ah false 413 ⟨(p:Int), -1⟩)))] [0,1,2,3,4] ⟨rfl,rfl,bf,(congrArg Value.bool h200),rfl,rfl,rfl,rfl,rfl,rfl,rfl,rfl,Ae⟩ ⟨fun w203 hw203=>Cj w203 y8.Entry 0 4095,fun w204 hw204=>ZF w204 y8 (he7.ext (hw204.ext rfl) (fun _ h=>h)) (by omega) (fun k hk=>by have hz:=U7 hFr.2 hB0 k (by dsimp only[EQ];rw[←hy8];exact hk);dsimp only[EC]at hz;rw[←hy8]at hz;exact⟨hz.1,hz.2.1⟩),fun w205 hw205=>DR w205 (p:Int),fun w206 hw206=>Bz w206 (hL.ext (hw206.ext rfl)) (GK y8) 412 (p:Int) (-1),fun w207 hw207=>DR w207 (p:Int),fun w208 hw208=>Bz w208 (hL.ext (hw208.ext rfl)) false 413 (p:Int) (-1),Ae⟩ (fun n209 hn210 => ?_)
     replace hn210:n188≤n209:=hn210
     refine BC 17 ?_
     refine BH o0 [1,2,4,5,6,88] [] [(1,Ac p),(2,pt z),(AU z),(AZ z),(D6 b6),(88,.slice (some ⟨n209,0,none⟩) 2 2)] ⟨w,n209+1,[(Ak w),(Bl c z),(Bv z),(Bq y8 z),(JS c p b6),(Y4 p y8 n209)]⟩ [0,1,2,3,4] Ae (.inr rfl) ?_
     refine BC 18 ?_
     refine Ht 65 #[.slice (some ⟨n209,0,none⟩) 2 2] (some 89) (.agg (Ar.arr (Bc [(Ah (GK y8) 412 ⟨(p:Int), -1⟩),(Ah false 413 ⟨(p:Int), -1⟩)]))) [1,2,4,5,6,89] [(1,Ac p),(2,pt z),(AU z),(AZ z),(D6 b6),(89,.agg (Ar.arr (Bc [(Ah (GK y8) 412 ⟨(p:Int), -1⟩),(Ah false 413 ⟨(p:Int), -1⟩)])))] [0,1,2,3,4] (fun w211 hw211=>DZ w211 (hL.ext (hw211.ext rfl)) ⟨some ⟨n209,0,none⟩,2,[(Ah (GK y8) 412 ⟨(p:Int), -1⟩),(Ah false 413 ⟨(p:Int), -1⟩)]⟩ (EP hw211 (i:=5) [(Ah (GK y8) 412 ⟨(p:Int), -1⟩),(Ah false 413 ⟨(p:Int), -1⟩)]) (show 2≤1000 by decide)) (fun n212 hn213 => ?_)
     replace hn213:n209+1≤n212:=hn213
     refine BC 19 ?_
     refine BH (an 3 4) [1,2,4,5,6] [Qb b6,Qb b6,Qb b6] [(1,Ac p),(2,pt z),(AU z),(AZ z),(D6 b6)] ⟨w,n212,[(Ak w),(Bl c z),(Bv z),(Bq y8 z),(Yb p y8 b6),(Y4 p y8 n209)]⟩ [] ⟨rfl,rfl,rfl,Ae⟩ (.inl rfl) ?_
     refine Es 20 [0,1,2,3,4,5] [(Ak w),(Bl c z),(Bv z),(Bq y8 z),(Yb p y8 b6),(Y4 p y8 n209)] rfl rfl ?_
     refine CU ?_
     refine BK [1,2,4,5,6] [(1,Ac p),(2,pt z),(AU z),(AZ z),(D6 b6)] ?_
     refine Cb [0,1,2,3,4] [(Ak w),(Bl c z),(Bv z),(Bq y8 z),(Yb p y8 b6)] rfl rfl ?_
     have eB:(Bc (H9 c p))=(Bc [(Ah (GK y8) 412 ⟨(p:Int), -1⟩),(Ah false 413 ⟨(p:Int), -1⟩)]):=by have e0:EQ c p=y8:=hy8.symm;unfold H9;simp only[e0];first | simp[h200,show ¬ y8.Am.xs.length≤8 by omega] | simp[h200,show y8.Am.xs.length≤8 by omega]
     refine BK [1,2,4,5,6] [(1,Ac p),(2,pt z),(AU z),(AZ z),(D6 b6)] ?_
     refine BD (fun a w' hs=>⟨n212,by omega,(by(try dsimp only[Y4,Yb,Bv,Bq,JS,Bl,AU,AZ,D6,JR]at hs ⊢);rw[eB];exact hs)⟩)
    refine Eh 19 [0,1,2,3,4] (JR c p y8 b6 z w) rfl rfl ?_
    refine JB [.tk 0 o0,.tk 1 (a1 3),.tk 7 o0,.tk 10 o0,.tk 11 (a1 3),.tk 12 o0,.tk 13 oT,.tk 14 o0,.cl 2 (.bool (win y8.Entry 0 4095)),.tk 3 (ov (.bool true)),.tk 4 (an 8 3),.cl 5 (.bool (GK y8)),.tk 6 o0,.cl 8 (.agg #[(Ac p),i6 (-1)]),.cl 9 (.agg (Ar.arr (Ah (GK y8) 412 ⟨(p:Int), -1⟩))),.cl 15 (.agg #[(Ac p),i6 (-1)]),.cl 16 (.agg (Ar.arr (Ah true 413 ⟨(p:Int), -1⟩)))] [1,2,4,5,6,80,87] [(42,#[i6 y8.Entry,i6 0,i6 4095],.bool (win y8.Entry 0 4095)),(69,#[.agg (Ap.arr y8)],.bool (GK y8)),(67,#[(Ac p)],.agg #[(Ac p),i6 (-1)]),(41,#[.bool (GK y8),i6 412,.agg #[(Ac p),i6 (-1)]],.agg (Ar.arr (Ah (GK y8) 412 ⟨(p:Int), -1⟩))),(67,#[(Ac p)],.agg #[(Ac p),i6 (-1)]),(41,#[.bool true,i6 413,.agg #[(Ac p),i6 (-1)]],.agg (Ar.arr (Ah true 413 ⟨(p:Int), -1⟩)))] (DF 17 3) [Qb (z+2),Qb (z+2),BT ((y8.Am.xs.length:Int)≤8),Value.bool (win y8.Entry 0 4095)=Value.bool true,Qb (z+2),Qb (z+2),Qb (z+2),Qb (z+2),Qb (z+2),Qb (z+2),Qb (z+2),Qb (z+2)] [(1,Ac p),(2,pt z),(AU z),(AZ z),(D6 b6),(80,.agg (Ar.arr (Ah (GK y8) 412 ⟨(p:Int), -1⟩))),(87,.agg (Ar.arr (Ah true 413 ⟨(p:Int), -1⟩)))] [0,1,2,3,4] ⟨rfl,rfl,bt,(congrArg Value.bool h200),rfl,rfl,rfl,rfl,rfl,rfl,rfl,rfl,Ae⟩ ⟨fun w214 hw214=>Cj w214 y8.Entry 0 4095,fun w215 hw215=>ZF w215 y8 (he7.ext (hw215.ext rfl) (fun _ h=>h)) (by omega) (fun k hk=>by have hz:=U7 hFr.2 hB0 k (by dsimp only[EQ];rw[←hy8];exact hk);dsimp only[EC]at hz;rw[←hy8]at hz;exact⟨hz.1,hz.2.1⟩),fun w216 hw216=>DR w216 (p:Int),fun w217 hw217=>Bz w217 (hL.ext (hw217.ext rfl)) (GK y8) 412 (p:Int) (-1),fun w218 hw218=>DR w218 (p:Int),fun w219 hw219=>Bz w219 (hL.ext (hw219.ext rfl)) true 413 (p:Int) (-1),Ae⟩ (fun n220 hn221 => ?_)
    replace hn221:n188≤n220:=hn221
    refine BC 17 ?_
    refine BH o0 [1,2,4,5,6,88] [] [(1,Ac p),(2,pt z),(AU z),(AZ z),(D6 b6),(88,.slice (some ⟨n220,0,none⟩) 2 2)] ⟨w,n220+1,[(Ak w),(Bl c z),(Bv z),(Bq y8 z),(JS c p b6),(YE p y8 n220)]⟩ [0,1,2,3,4] Ae (.inr rfl) ?_
    refine BC 18 ?_
    refine Ht 65 #[.slice (some ⟨n220,0,none⟩) 2 2] (some 89) (.agg (Ar.arr (Bc [(Ah (GK y8) 412 ⟨(p:Int), -1⟩),(Ah true 413 ⟨(p:Int), -1⟩)]))) [1,2,4,5,6,89] [(1,Ac p),(2,pt z),(AU z),(AZ z),(D6 b6),(89,.agg (Ar.arr (Bc [(Ah (GK y8) 412 ⟨(p:Int), -1⟩),(Ah true 413 ⟨(p:Int), -1⟩)])))] [0,1,2,3,4] (fun w222 hw222=>DZ w222 (hL.ext (hw222.ext rfl)) ⟨some ⟨n220,0,none⟩,2,[(Ah (GK y8) 412 ⟨(p:Int), -1⟩),(Ah true 413 ⟨(p:Int), -1⟩)]⟩ (EP hw222 (i:=5) [(Ah (GK y8) 412 ⟨(p:Int), -1⟩),(Ah true 413 ⟨(p:Int), -1⟩)]) (show 2≤1000 by decide)) (fun n223 hn224 => ?_)
    replace hn224:n220+1≤n223:=hn224
    refine BC 19 ?_
    refine BH (an 3 4) [1,2,4,5,6] [Qb b6,Qb b6,Qb b6] [(1,Ac p),(2,pt z),(AU z),(AZ z),(D6 b6)] ⟨w,n223,[(Ak w),(Bl c z),(Bv z),(Bq y8 z),(XY p y8 b6),(YE p y8 n220)]⟩ [] ⟨rfl,rfl,rfl,Ae⟩ (.inl rfl) ?_
    refine Es 20 [0,1,2,3,4,5] [(Ak w),(Bl c z),(Bv z),(Bq y8 z),(XY p y8 b6),(YE p y8 n220)] rfl rfl ?_
    refine CU ?_
    refine BK [1,2,4,5,6] [(1,Ac p),(2,pt z),(AU z),(AZ z),(D6 b6)] ?_
    refine Cb [0,1,2,3,4] [(Ak w),(Bl c z),(Bv z),(Bq y8 z),(XY p y8 b6)] rfl rfl ?_
    have eB:(Bc (H9 c p))=(Bc [(Ah (GK y8) 412 ⟨(p:Int), -1⟩),(Ah true 413 ⟨(p:Int), -1⟩)]):=by have e0:EQ c p=y8:=hy8.symm;unfold H9;simp only[e0];first | simp[h200,show ¬ y8.Am.xs.length≤8 by omega] | simp[h200,show y8.Am.xs.length≤8 by omega]
    refine BK [1,2,4,5,6] [(1,Ac p),(2,pt z),(AU z),(AZ z),(D6 b6)] ?_
    refine BD (fun a w' hs=>⟨n223,by omega,(by(try dsimp only[YE,XY,Bv,Bq,JS,Bl,AU,AZ,D6,JR]at hs ⊢);rw[eB];exact hs)⟩)
   have hd225:=FQ h200
   by_cases h226:(8:Int)<(y8.Am.xs.length:Int)
   ·refine Eh 19 [0,1,2,3,4] (JR c p y8 b6 z w) rfl rfl ?_
    refine JB [.tk 0 o0,.tk 1 (a1 3),.tk 7 o0,.tk 10 o0,.tk 11 (a1 3),.tk 12 o0,.tk 13 oF,.tk 14 o0,.cl 2 (.bool (win y8.Entry 0 4095)),.tk 3 (ov (.bool false)),.tk 4 o0,.tk 5 o0,.tk 6 o0,.cl 8 (.agg #[(Ac p),i6 (-1)]),.cl 9 (.agg (Ar.arr (Ah false 412 ⟨(p:Int), -1⟩))),.cl 15 (.agg #[(Ac p),i6 (-1)]),.cl 16 (.agg (Ar.arr (Ah false 413 ⟨(p:Int), -1⟩)))] [1,2,4,5,6,80,87] [(42,#[i6 y8.Entry,i6 0,i6 4095],.bool (win y8.Entry 0 4095)),(67,#[(Ac p)],.agg #[(Ac p),i6 (-1)]),(41,#[.bool false,i6 412,.agg #[(Ac p),i6 (-1)]],.agg (Ar.arr (Ah false 412 ⟨(p:Int), -1⟩))),(67,#[(Ac p)],.agg #[(Ac p),i6 (-1)]),(41,#[.bool false,i6 413,.agg #[(Ac p),i6 (-1)]],.agg (Ar.arr (Ah false 413 ⟨(p:Int), -1⟩)))] (DF 17 3) [Qb (z+2),Qb (z+2),BF ((y8.Am.xs.length:Int)≤8),Value.bool (win y8.Entry 0 4095)=Value.bool false] [(1,Ac p),(2,pt z),(AU z),(AZ z),(D6 b6),(80,.agg (Ar.arr (Ah false 412 ⟨(p:Int), -1⟩))),(87,.agg (Ar.arr (Ah false 413 ⟨(p:Int), -1⟩)))] [0,1,2,3,4] ⟨rfl,rfl,bf,(congrArg Value.bool (Bool.eq_false_iff.2 h200)),Ae⟩ ⟨fun w227 hw227=>Cj w227 y8.Entry 0 4095,fun w228 hw228=>DR w228 (p:Int),fun w229 hw229=>Bz w229 (hL.ext (hw229.ext rfl)) false 412 (p:Int) (-1),fun w230 hw230=>DR w230 (p:Int),fun w231 hw231=>Bz w231 (hL.ext (hw231.ext rfl)) false 413 (p:Int) (-1),Ae⟩ (fun n232 hn233 => ?_)
    replace hn233:n188≤n232:=hn233
    refine BC 17 ?_
    refine BH o0 [1,2,4,5,6,88] [] [(1,Ac p),(2,pt z),(AU z),(AZ z),(D6 b6),(88,.slice (some ⟨n232,0,none⟩) 2 2)] ⟨w,n232+1,[(Ak w),(Bl c z),(Bv z),(Bq y8 z),(JS c p b6),(Y8 p n232)]⟩ [0,1,2,3,4] Ae (.inr rfl) ?_
    refine BC 18 ?_
    refine Ht 65 #[.slice (some ⟨n232,0,none⟩) 2 2] (some 89) (.agg (Ar.arr (Bc [(Ah false 412 ⟨(p:Int), -1⟩),(Ah false 413 ⟨(p:Int), -1⟩)]))) [1,2,4,5,6,89] [(1,Ac p),(2,pt z),(AU z),(AZ z),(D6 b6),(89,.agg (Ar.arr (Bc [(Ah false 412 ⟨(p:Int), -1⟩),(Ah false 413 ⟨(p:Int), -1⟩)])))] [0,1,2,3,4] (fun w234 hw234=>DZ w234 (hL.ext (hw234.ext rfl)) ⟨some ⟨n232,0,none⟩,2,[(Ah false 412 ⟨(p:Int), -1⟩),(Ah false 413 ⟨(p:Int), -1⟩)]⟩ (EP hw234 (i:=5) [(Ah false 412 ⟨(p:Int), -1⟩),(Ah false 413 ⟨(p:Int), -1⟩)]) (show 2≤1000 by decide)) (fun n235 hn236 => ?_)
    replace hn236:n232+1≤n235:=hn236
    refine BC 19 ?_
    refine BH (an 3 4) [1,2,4,5,6] [Qb b6,Qb b6,Qb b6] [(1,Ac p),(2,pt z),(AU z),(AZ z),(D6 b6)] ⟨w,n235,[(Ak w),(Bl c z),(Bv z),(Bq y8 z),(YH p b6),(Y8 p n232)]⟩ [] ⟨rfl,rfl,rfl,Ae⟩ (.inl rfl) ?_
    refine Es 20 [0,1,2,3,4,5] [(Ak w),(Bl c z),(Bv z),(Bq y8 z),(YH p b6),(Y8 p n232)] rfl rfl ?_
    refine CU ?_
    refine BK [1,2,4,5,6] [(1,Ac p),(2,pt z),(AU z),(AZ z),(D6 b6)] ?_
    refine Cb [0,1,2,3,4] [(Ak w),(Bl c z),(Bv z),(Bq y8 z),(YH p b6)] rfl rfl ?_
    have eB:(Bc (H9 c p))=(Bc [(Ah false 412 ⟨(p:Int), -1⟩),(Ah false 413 ⟨(p:Int), -1⟩)]):=by have e0:EQ c p=y8:=hy8.symm;unfold H9;simp only[e0];first | simp[h200,show ¬ y8.Am.xs.length≤8 by omega] | simp[h200,show y8.Am.xs.length≤8 by omega]
    refine BK [1,2,4,5,6] [(1,Ac p),(2,pt z),(AU z),(AZ z),(D6 b6)] ?_
    refine BD (fun a w' hs=>⟨n235,by omega,(by(try dsimp only[Y8,YH,Bv,Bq,JS,Bl,AU,AZ,D6,JR]at hs ⊢);rw[eB];exact hs)⟩)
   refine Eh 19 [0,1,2,3,4] (JR c p y8 b6 z w) rfl rfl ?_
   refine JB [.tk 0 o0,.tk 1 (a1 3),.tk 7 o0,.tk 10 o0,.tk 11 (a1 3),.tk 12 o0,.tk 13 oT,.tk 14 o0,.cl 2 (.bool (win y8.Entry 0 4095)),.tk 3 (ov (.bool false)),.tk 4 o0,.tk 5 o0,.tk 6 o0,.cl 8 (.agg #[(Ac p),i6 (-1)]),.cl 9 (.agg (Ar.arr (Ah false 412 ⟨(p:Int), -1⟩))),.cl 15 (.agg #[(Ac p),i6 (-1)]),.cl 16 (.agg (Ar.arr (Ah true 413 ⟨(p:Int), -1⟩)))] [1,2,4,5,6,80,87] [(42,#[i6 y8.Entry,i6 0,i6 4095],.bool (win y8.Entry 0 4095)),(67,#[(Ac p)],.agg #[(Ac p),i6 (-1)]),(41,#[.bool false,i6 412,.agg #[(Ac p),i6 (-1)]],.agg (Ar.arr (Ah false 412 ⟨(p:Int), -1⟩))),(67,#[(Ac p)],.agg #[(Ac p),i6 (-1)]),(41,#[.bool true,i6 413,.agg #[(Ac p),i6 (-1)]],.agg (Ar.arr (Ah true 413 ⟨(p:Int), -1⟩)))] (DF 17 3) [Qb (z+2),Qb (z+2),BT ((y8.Am.xs.length:Int)≤8),Value.bool (win y8.Entry 0 4095)=Value.bool false] [(1,Ac p),(2,pt z),(AU z),(AZ z),(D6 b6),(80,.agg (Ar.arr (Ah false 412 ⟨(p:Int), -1⟩))),(87,.agg (Ar.arr (Ah true 413 ⟨(p:Int), -1⟩)))] [0,1,2,3,4] ⟨rfl,rfl,bt,(congrArg Value.bool (Bool.eq_false_iff.2 h200)),Ae⟩ ⟨fun w237 hw237=>Cj w237 y8.Entry 0 4095,fun w238 hw238=>DR w238 (p:Int),fun w239 hw239=>Bz w239 (hL.ext (hw239.ext rfl)) false 412 (p:Int) (-1),fun w240 hw240=>DR w240 (p:Int),fun w241 hw241=>Bz w241 (hL.ext (hw241.ext rfl)) true 413 (p:Int) (-1),Ae⟩ (fun n242 hn243 => ?_)
   replace hn243:n188≤n242:=hn243
   refine BC 17 ?_
   refine BH o0 [1,2,4,5,6,88] [] [(1,Ac p),(2,pt z),(AU z),(AZ z),(D6 b6),(88,.slice (some ⟨n242,0,none⟩) 2 2)] ⟨w,n242+1,[(Ak w),(Bl c z),(Bv z),(Bq y8 z),(JS c p b6),(XX p n242)]⟩ [0,1,2,3,4] Ae (.inr rfl) ?_
   refine BC 18 ?_
   refine Ht 65 #[.slice (some ⟨n242,0,none⟩) 2 2] (some 89) (.agg (Ar.arr (Bc [(Ah false 412 ⟨(p:Int), -1⟩),(Ah true 413 ⟨(p:Int), -1⟩)]))) [1,2,4,5,6,89] [(1,Ac p),(2,pt z),(AU z),(AZ z),(D6 b6),(89,.agg (Ar.arr (Bc [(Ah false 412 ⟨(p:Int), -1⟩),(Ah true 413 ⟨(p:Int), -1⟩)])))] [0,1,2,3,4] (fun w244 hw244=>DZ w244 (hL.ext (hw244.ext rfl)) ⟨some ⟨n242,0,none⟩,2,[(Ah false 412 ⟨(p:Int), -1⟩),(Ah true 413 ⟨(p:Int), -1⟩)]⟩ (EP hw244 (i:=5) [(Ah false 412 ⟨(p:Int), -1⟩),(Ah true 413 ⟨(p:Int), -1⟩)]) (show 2≤1000 by decide)) (fun n245 hn246 => ?_)
   replace hn246:n242+1≤n245:=hn246
   refine BC 19 ?_
   refine BH (an 3 4) [1,2,4,5,6] [Qb b6,Qb b6,Qb b6] [(1,Ac p),(2,pt z),(AU z),(AZ z),(D6 b6)] ⟨w,n245,[(Ak w),(Bl c z),(Bv z),(Bq y8 z),(Y2 p b6),(XX p n242)]⟩ [] ⟨rfl,rfl,rfl,Ae⟩ (.inl rfl) ?_
   refine Es 20 [0,1,2,3,4,5] [(Ak w),(Bl c z),(Bv z),(Bq y8 z),(Y2 p b6),(XX p n242)] rfl rfl ?_
   refine CU ?_
   refine BK [1,2,4,5,6] [(1,Ac p),(2,pt z),(AU z),(AZ z),(D6 b6)] ?_
   refine Cb [0,1,2,3,4] [(Ak w),(Bl c z),(Bv z),(Bq y8 z),(Y2 p b6)] rfl rfl ?_
   have eB:(Bc (H9 c p))=(Bc [(Ah false 412 ⟨(p:Int), -1⟩),(Ah true 413 ⟨(p:Int), -1⟩)]):=by have e0:EQ c p=y8:=hy8.symm;unfold H9;simp only[e0];first | simp[h200,show ¬ y8.Am.xs.length≤8 by omega] | simp[h200,show y8.Am.xs.length≤8 by omega]
   refine BK [1,2,4,5,6] [(1,Ac p),(2,pt z),(AU z),(AZ z),(D6 b6)] ?_
   refine BD (fun a w' hs=>⟨n245,by omega,(by(try dsimp only[XX,Y2,Bv,Bq,JS,Bl,AU,AZ,D6,JR]at hs ⊢);rw[eB];exact hs)⟩)
  rintro a w' ⟨n198,hn199,hs⟩
  refine(?_:G Tryd.prog 118 [(1,Ac p),(2,pt z),(AU z),(AZ z),(D6 b6)] [] ⟨w,n198,[(Ak w),(Bl c z),(Bv z),(Bq y8 z),(.blk b6 (.cells (Ar.arr (Bc (H9 c p))) 73 (0,0)) true)]⟩ _ _ _) a w' hs
  clear hs a w'
  refine WI (fun a w'=>∃ (n247:Nat),n198≤n247∧St 118 [(AU z),(D6 b6)] [] ⟨w,n247,[(Ak w),(Bl c z),(Bv z),(Bq y8 z),(bk b6 (Ar.arr (CX c p)) 73)]⟩ a w') ?_ ?_
  ·refine Az 5 0 [] [[o0]] [] [(1,Ac p),(2,pt z),(AU z),(AZ z),(D6 b6),(8,i6 0)] rfl Ae ?_
   refine Di (fun m a w'=>∃ (n250:Nat) (k:Nat),m=y8.Am.xs.length - k∧n198≤n250∧(k≤y8.Am.xs.length)∧St 118 [(1,Ac p),(2,pt z),(AU z),(AZ z),(D6 b6),(8,Ac k)] [] ⟨w,n250,[(Ak w),(Bl c z),(Bv z),(Bq y8 z),(SY c p b6 k)]⟩ a w') (y8.Am.xs.length - 0) ?_ ?_
   ·intro a w' hs;exact⟨n198,0,rfl,Nat.le_refl _,Nat.zero_le _,(by(try dsimp only[SY,Bv,Bq,JS,Bl,AU,AZ,D6,JR]at hs ⊢);rw[MR];exact hs)⟩
   rintro m a w' ⟨n250,k,rfl,hn249,hkk,hs⟩
   refine(?_:G Tryd.prog 118 [(1,Ac p),(2,pt z),(AU z),(AZ z),(D6 b6),(8,Ac k)] [] ⟨w,n250,[(Ak w),(Bl c z),(Bv z),(Bq y8 z),(SY c p b6 k)]⟩ _ _ _) a w' hs
   clear hs a w'
   refine Ce <| Ce ?_
   by_cases h251:(k:Int)<(y8.Am.xs.length:Int)
   ·by_cases h252:(((FZ (Bc (H9 c p)) (J8 c p) k).e:Int)==(0:Int)&&((((FZ (Bc (H9 c p)) (J8 c p) k).Ai.First:Int)==(0:Int)&&(((FZ (Bc (H9 c p)) (J8 c p) k).Ai.Second:Int)==(0:Int)&&true))&&true))=true
    ·refine Az 8 0 [1] [[o0,o0,(a1 3),o0,oT,o0,(an 3 4),(oa [.via 0 (i6 0),.via 0 (i6 0),.via 0 (i6 0)]),⟨.seq true,none⟩,o0]] [Qb (z+2),BT ((k:Int)<(y8.Am.xs.length:Int)),Qb b6,Qb b6,Qb b6,Old w 0 0 (i6 0),Old w 0 1 (i6 0),Old w 0 2 (i6 0),(((FZ (Bc (H9 c p)) (J8 c p) k).e:Int)==(0:Int)&&((((FZ (Bc (H9 c p)) (J8 c p) k).Ai.First:Int)==(0:Int)&&(((FZ (Bc (H9 c p)) (J8 c p) k).Ai.Second:Int)==(0:Int)&&true))&&true))=true] [(1,Ac p),(2,pt z),(AU z),(AZ z),(D6 b6),(8,Ac k),(99,.bool true)] rfl ⟨rfl,bt,rfl,rfl,rfl,A7 (hL.2 0 _ rfl),A7 (hL.2 1 _ rfl),A7 (hL.2 2 _ rfl),h252,Ae⟩ ?_
     obtain⟨b253,o254,ha255,hF257,hc256⟩:=(he7.Am).1.all (show 0<y8.Am.xs.length by omega)
     replace ha255:y8.Am.a=some ⟨b253,o254,none⟩:=ha255
     have hc258:=hc256 k (show k<y8.Am.xs.length by omega)
     have he259:=(he7.Am).2 k (show k<y8.Am.xs.length by omega)
     obtain⟨y260,hy260⟩:∃ y_,y_=gd y8.Am.xs k:=⟨_,rfl⟩
     rw[←hy260]at he259 hc258
     refine Eh 15 [0,1,2,3,4] [(Ak w),(Bl c z),(Bv z),(Bq y8 z),(SY c p b6 k)] rfl rfl ?_
     refine JB [.tk 0 o0,.tk 1 (DN 3 b253 o254 y8.Am),.tk 2 o0,.tk 3 (oi k),.tk 4 o0,.tk 5 (oa [.via 0 (i6 y260.Channel)]),.tk 6 o0,.tk 7 (a1 1),.tk 8 o0,.tk 9 (ov (i6 ((c.Ag.xs.length:Int) - 1))),.tk 11 o0,.tk 12 o0,.cl 10 (.bool (win y260.Channel 0 ((c.Ag.xs.length:Int) - 1))),.cl 13 (.agg #[(Ac p),Ac k]),.cl 14 (.agg (Ar.arr (Ah (win y260.Channel 0 ((c.Ag.xs.length:Int) - 1)) 414 ⟨(p:Int),(k:Int)⟩)))] [1,2,4,5,6,8,116] [(42,#[i6 y260.Channel,i6 0,i6 ((c.Ag.xs.length:Int) - 1)],.bool (win y260.Channel 0 ((c.Ag.xs.length:Int) - 1))),(70,#[(Ac p),Ac k],.agg #[(Ac p),Ac k]),(41,#[.bool (win y260.Channel 0 ((c.Ag.xs.length:Int) - 1)),i6 414,.agg #[(Ac p),Ac k]],.agg (Ar.arr (Ah (win y260.Channel 0 ((c.Ag.xs.length:Int) - 1)) 414 ⟨(p:Int),(k:Int)⟩)))] (DF 15 1) [Qb (z+2),Dh b253 o254 y8.Am,Ci k,k<y8.Am.xs.length,BN,Old w b253 (o254+k*2) (i6 y260.Channel),Qb z,Wr ((c.Ag.xs.length:Int) - 1) ((c.Ag.xs.length:Int) - 1)] [(1,Ac p),(2,pt z),(AU z),(AZ z),(D6 b6),(8,Ac k),(116,.agg (Ar.arr (Ah (win y260.Channel 0 ((c.Ag.xs.length:Int) - 1)) 414 ⟨(p:Int),(k:Int)⟩)))] [0,1,2,3,4] ⟨rfl,Df ha255,rfl,(by omega),rfl,A7 (hc258 0 _ rfl),rfl,BQ,Ae⟩ ⟨fun w261 hw261=>Cj w261 y260.Channel 0 ((c.Ag.xs.length:Int) - 1),fun w262 hw262=>GX w262 (p:Int) (k:Int),fun w263 hw263=>Bz w263 (hL.ext (hw263.ext rfl)) (win y260.Channel 0 ((c.Ag.xs.length:Int) - 1)) 414 (p:Int) (k:Int),Ae⟩ (fun n264 hn265 => ?_)
     replace hn265:n250≤n264:=hn265
     refine BC 15 ?_
     refine BH (an 3 4) [1,2,4,5,6,8] [Qb b6,Qb b6,Qb b6] [(1,Ac p),(2,pt z),(AU z),(AZ z),(D6 b6),(8,Ac k)] ⟨w,n264,(Ye c p y8 b6 k z w y260)⟩ [] ⟨rfl,rfl,rfl,Ae⟩ (.inl rfl) ?_
     refine Es 16 [0,1,2,3,4] (Ye c p y8 b6 k z w y260) rfl rfl ?_
     refine CU ?_
     refine Jw 4 0 [] [[o0,(ov (i6 ((k+1:Nat):Int))),o0]] [Wr ((k:Int)+1) (((k+1:Nat):Int))] [(1,Ac p),(2,pt z),(AU z),(AZ z),(D6 b6),(8,i6 ((k+1:Nat):Int))] rfl ⟨BQ,Ae⟩ ?_
     have eS:=Qp (GZ.1 h252)
     have eP:J8 c p k=(Ah (win y260.Channel 0 ((c.Ag.xs.length:Int) - 1)) 414 ⟨(p:Int),(k:Int)⟩):=by have e0:Xe c p k=y260:=(by dsimp only[Xe];rw[←hy8,←hy260]);unfold J8;rw[e0]
     refine BK [1,2,4,5,6,8] [(1,Ac p),(2,pt z),(AU z),(AZ z),(D6 b6),(8,i6 ((k+1:Nat):Int))] ?_
     refine BD (fun a w' hs=>⟨y8.Am.xs.length - (k+1),by omega,n264,(k+1),rfl,by omega,by omega,(by(try dsimp only[SY,Bv,Bq,JS,Bl,AU,AZ,D6,Ye,JR]at hs ⊢);rw[eS,eP];exact hs)⟩)
    refine Az 8 0 [0] [[o0,o0,(a1 3),o0,oT,o0,(an 3 4),(oa [.via 0 (i6 0),.via 0 (i6 0),.via 0 (i6 0)]),⟨.seq false,none⟩,o0]] [Qb (z+2),BT ((k:Int)<(y8.Am.xs.length:Int)),Qb b6,Qb b6,Qb b6,Old w 0 0 (i6 0),Old w 0 1 (i6 0),Old w 0 2 (i6 0),(((FZ (Bc (H9 c p)) (J8 c p) k).e:Int)==(0:Int)&&((((FZ (Bc (H9 c p)) (J8 c p) k).Ai.First:Int)==(0:Int)&&(((FZ (Bc (H9 c p)) (J8 c p) k).Ai.Second:Int)==(0:Int)&&true))&&true))=false] [(1,Ac p),(2,pt z),(AU z),(AZ z),(D6 b6),(8,Ac k),(99,.bool false)] rfl ⟨rfl,bt,rfl,rfl,rfl,A7 (hL.2 0 _ rfl),A7 (hL.2 1 _ rfl),A7 (hL.2 2 _ rfl),(Bool.eq_false_iff.2 h252),Ae⟩ ?_
    have eB:(CX c p)=(FZ (Bc (H9 c p)) (J8 c p) k):=(if_pos hB0).trans (L8 (fun e=>h252 (GZ.2 e)) (by dsimp only[EQ];rw[←hy8];omega))
    refine BK [4,6] [(AU z),(D6 b6)] ?_
    refine BD (fun a w' hs=>⟨n250,by omega,(by(try dsimp only[SY,Bv,Bq,JS,Bl,AU,AZ,D6,Ye,JR]at hs ⊢);rw[eB];exact hs)⟩)
   refine Az 8 0 [0] [[o0,o0,(a1 3),o0,oF,o0,o0]] [Qb (z+2),BF ((k:Int)<(y8.Am.xs.length:Int))] [(1,Ac p),(2,pt z),(AU z),(AZ z),(D6 b6),(8,Ac k),(99,.bool false)] rfl ⟨rfl,bf,Ae⟩ ?_
   have eB:(CX c p)=(FZ (Bc (H9 c p)) (J8 c p) k):=(if_pos hB0).trans (congrArg (FZ _ _) (by dsimp only[EQ];rw[←hy8];omega))
   refine BK [4,6] [(AU z),(D6 b6)] ?_
   refine BD (fun a w' hs=>⟨n250,by omega,(by(try dsimp only[SY,Bv,Bq,JS,Bl,AU,AZ,D6,JR]at hs ⊢);rw[eB];exact hs)⟩)
  rintro a w' ⟨n247,hn248,hs⟩
  refine(?_:G Tryd.prog 118 [(AU z),(D6 b6)] [] ⟨w,n247,[(Ak w),(Bl c z),(Bv z),(Bq y8 z),(bk b6 (Ar.arr (CX c p)) 73)]⟩ _ _ _) a w' hs
  clear hs a w'
  refine q_c 5 0 [] [[(an 3 4),(an 3 2)]] [Qb b6,Qb b6,Qb b6,Qb (z+1),Qb (z+1),Qb (z+1)] [(AU z)] ⟨w,n247,[(Ak w),(Bl c z),(bk (z+1) (Ar.arr (CX c p)) 73),(Bq y8 z),(bk b6 (Ar.arr (CX c p)) 73)]⟩ rfl ⟨rfl,rfl,rfl,rfl,rfl,rfl,Ae⟩ ?_
  refine AA [.at 2,.at 2,.at 2] [Qb (z+1),Qb (z+1),Qb (z+1)] (.agg #[i6 ((CX c p).e),i6 ((CX c p).Ai.First),i6 ((CX c p).Ai.Second)]) ⟨rfl,rfl,rfl,Ae⟩ ?_
  intro w266 hw266
  exact⟨rfl,AO hw266⟩
 refine q_c 9 0 [1] [[(an 3 4),(oa [.via 0 (i6 0),.via 0 (i6 0),.via 0 (i6 0)]),⟨.seq false,none⟩],[(an 3 4),(an 3 2)]] [Qb b6,Qb b6,Qb b6,Old w 0 0 (i6 0),Old w 0 1 (i6 0),Old w 0 2 (i6 0),(((IP c p).e:Int)==(0:Int)&&((((IP c p).Ai.First:Int)==(0:Int)&&(((IP c p).Ai.Second:Int)==(0:Int)&&true))&&true))=false,Qb b6,Qb b6,Qb b6,Qb (z+1),Qb (z+1),Qb (z+1)] [(AU z)] ⟨w,n188,[(Ak w),(Bl c z),(bk (z+1) (Ar.arr (IP c p)) 73),(Bq y8 z),(JS c p b6)]⟩ rfl ⟨rfl,rfl,rfl,A7 (hL.2 0 _ rfl),A7 (hL.2 1 _ rfl),A7 (hL.2 2 _ rfl),(Bool.eq_false_iff.2 h197),rfl,rfl,rfl,rfl,rfl,rfl,Ae⟩ ?_
 refine AA [.at 2,.at 2,.at 2] [Qb (z+1),Qb (z+1),Qb (z+1)] (.agg #[i6 ((IP c p).e),i6 ((IP c p).Ai.First),i6 ((IP c p).Ai.Second)]) ⟨rfl,rfl,rfl,Ae⟩ ?_
 intro w267 hw267
 exact⟨by rw[show CX c p=IP c p from if_neg (fun e=>h197 (GZ.2 e))],AO hw267⟩
abbrev MF(c:Aj)(h:Nat):AL:=gd c.Ag.xs h
def Eu(x:AL):Bool:=if x.Kind=2 then win x.Dn 1 8 else decide (x.Dn=0)
def AB(x:AL):Int:=if x.Kind=2 then 1 else 4
def Dx(c:Aj)(h:Nat):Ar:=Bc [Ah (win (MF c h).Kind 1 2&&win (MF c h).Words 1 16&&Eu (MF c h)) 415 ⟨(h:Int), -1⟩,Ah (decide ((II c h:Nat)=(1:Int))) 416 ⟨(h:Int), -1⟩,Ah (win (BB c h:Nat) 1 (AB (MF c h))) 417 ⟨(h:Int), -1⟩]
section
variable (n224:Nat)(y8:AL)(h:Nat)(c:Aj)(n68 n205:Nat)(n49 n114:Nat)(n160 n270:Nat)(n316 n141:Nat)(n251 n297:Nat)(n95 z:Nat)
abbrev qt5j_0:=bk n224 #[i6 ((Ah (Eu y8) 415 ⟨(h:Int), -1⟩).e),i6 ((Ah (Eu y8) 415 ⟨(h:Int), -1⟩).Ai.First),i6 ((Ah (Eu y8) 415 ⟨(h:Int), -1⟩).Ai.Second),i6 ((Ah false 416 ⟨(h:Int), -1⟩).e),i6 ((Ah false 416 ⟨(h:Int), -1⟩).Ai.First),i6 ((Ah false 416 ⟨(h:Int), -1⟩).Ai.Second),i6 ((Ah (win ((BB c (h:Int):Nat):Int) 1 (AB y8)) 417 ⟨(h:Int), -1⟩).e),i6 ((Ah (win ((BB c (h:Int):Nat):Int) 1 (AB y8)) 417 ⟨(h:Int), -1⟩).Ai.First),i6 ((Ah (win ((BB c (h:Int):Nat):Int) 1 (AB y8)) 417 ⟨(h:Int), -1⟩).Ai.Second)] 73
abbrev qt5j_1:=bk n68 #[i6 ((Ah (Eu y8) 415 ⟨(h:Int), -1⟩).e),i6 ((Ah (Eu y8) 415 ⟨(h:Int), -1⟩).Ai.First),i6 ((Ah (Eu y8) 415 ⟨(h:Int), -1⟩).Ai.Second),i6 ((Ah false 416 ⟨(h:Int), -1⟩).e),i6 ((Ah false 416 ⟨(h:Int), -1⟩).Ai.First),i6 ((Ah false 416 ⟨(h:Int), -1⟩).Ai.Second),i6 ((Ah (win ((BB c (h:Int):Nat):Int) 1 (AB y8)) 417 ⟨(h:Int), -1⟩).e),i6 ((Ah (win ((BB c (h:Int):Nat):Int) 1 (AB y8)) 417 ⟨(h:Int), -1⟩).Ai.First),i6 ((Ah (win ((BB c (h:Int):Nat):Int) 1 (AB y8)) 417 ⟨(h:Int), -1⟩).Ai.Second)] 73
abbrev qt5j_2:=bk n205 #[i6 ((Ah (Eu y8) 415 ⟨(h:Int), -1⟩).e),i6 ((Ah (Eu y8) 415 ⟨(h:Int), -1⟩).Ai.First),i6 ((Ah (Eu y8) 415 ⟨(h:Int), -1⟩).Ai.Second),i6 ((Ah true 416 ⟨(h:Int), -1⟩).e),i6 ((Ah true 416 ⟨(h:Int), -1⟩).Ai.First),i6 ((Ah true 416 ⟨(h:Int), -1⟩).Ai.Second),i6 ((Ah (win ((BB c (h:Int):Nat):Int) 1 (AB y8)) 417 ⟨(h:Int), -1⟩).e),i6 ((Ah (win ((BB c (h:Int):Nat):Int) 1 (AB y8)) 417 ⟨(h:Int), -1⟩).Ai.First),i6 ((Ah (win ((BB c (h:Int):Nat):Int) 1 (AB y8)) 417 ⟨(h:Int), -1⟩).Ai.Second)] 73
abbrev qt5j_3:=bk n49 #[i6 ((Ah (Eu y8) 415 ⟨(h:Int), -1⟩).e),i6 ((Ah (Eu y8) 415 ⟨(h:Int), -1⟩).Ai.First),i6 ((Ah (Eu y8) 415 ⟨(h:Int), -1⟩).Ai.Second),i6 ((Ah true 416 ⟨(h:Int), -1⟩).e),i6 ((Ah true 416 ⟨(h:Int), -1⟩).Ai.First),i6 ((Ah true 416 ⟨(h:Int), -1⟩).Ai.Second),i6 ((Ah (win ((BB c (h:Int):Nat):Int) 1 (AB y8)) 417 ⟨(h:Int), -1⟩).e),i6 ((Ah (win ((BB c (h:Int):Nat):Int) 1 (AB y8)) 417 ⟨(h:Int), -1⟩).Ai.First),i6 ((Ah (win ((BB c (h:Int):Nat):Int) 1 (AB y8)) 417 ⟨(h:Int), -1⟩).Ai.Second)] 73
abbrev qt5j_4:=bk n114 #[i6 ((Ah false 415 ⟨(h:Int), -1⟩).e),i6 ((Ah false 415 ⟨(h:Int), -1⟩).Ai.First),i6 ((Ah false 415 ⟨(h:Int), -1⟩).Ai.Second),i6 ((Ah false 416 ⟨(h:Int), -1⟩).e),i6 ((Ah false 416 ⟨(h:Int), -1⟩).Ai.First),i6 ((Ah false 416 ⟨(h:Int), -1⟩).Ai.Second),i6 ((Ah (win ((BB c (h:Int):Nat):Int) 1 (AB y8)) 417 ⟨(h:Int), -1⟩).e),i6 ((Ah (win ((BB c (h:Int):Nat):Int) 1 (AB y8)) 417 ⟨(h:Int), -1⟩).Ai.First),i6 ((Ah (win ((BB c (h:Int):Nat):Int) 1 (AB y8)) 417 ⟨(h:Int), -1⟩).Ai.Second)] 73
abbrev qt5j_5:=bk n160 #[i6 ((Ah false 415 ⟨(h:Int), -1⟩).e),i6 ((Ah false 415 ⟨(h:Int), -1⟩).Ai.First),i6 ((Ah false 415 ⟨(h:Int), -1⟩).Ai.Second),i6 ((Ah false 416 ⟨(h:Int), -1⟩).e),i6 ((Ah false 416 ⟨(h:Int), -1⟩).Ai.First),i6 ((Ah false 416 ⟨(h:Int), -1⟩).Ai.Second),i6 ((Ah (win ((BB c (h:Int):Nat):Int) 1 (AB y8)) 417 ⟨(h:Int), -1⟩).e),i6 ((Ah (win ((BB c (h:Int):Nat):Int) 1 (AB y8)) 417 ⟨(h:Int), -1⟩).Ai.First),i6 ((Ah (win ((BB c (h:Int):Nat):Int) 1 (AB y8)) 417 ⟨(h:Int), -1⟩).Ai.Second)] 73
abbrev qt5j_6:=bk n270 #[i6 ((Ah false 415 ⟨(h:Int), -1⟩).e),i6 ((Ah false 415 ⟨(h:Int), -1⟩).Ai.First),i6 ((Ah false 415 ⟨(h:Int), -1⟩).Ai.Second),i6 ((Ah false 416 ⟨(h:Int), -1⟩).e),i6 ((Ah false 416 ⟨(h:Int), -1⟩).Ai.First),i6 ((Ah false 416 ⟨(h:Int), -1⟩).Ai.Second),i6 ((Ah (win ((BB c (h:Int):Nat):Int) 1 (AB y8)) 417 ⟨(h:Int), -1⟩).e),i6 ((Ah (win ((BB c (h:Int):Nat):Int) 1 (AB y8)) 417 ⟨(h:Int), -1⟩).Ai.First),i6 ((Ah (win ((BB c (h:Int):Nat):Int) 1 (AB y8)) 417 ⟨(h:Int), -1⟩).Ai.Second)] 73
abbrev qt5j_7:=bk n316 #[i6 ((Ah false 415 ⟨(h:Int), -1⟩).e),i6 ((Ah false 415 ⟨(h:Int), -1⟩).Ai.First),i6 ((Ah false 415 ⟨(h:Int), -1⟩).Ai.Second),i6 ((Ah false 416 ⟨(h:Int), -1⟩).e),i6 ((Ah false 416 ⟨(h:Int), -1⟩).Ai.First),i6 ((Ah false 416 ⟨(h:Int), -1⟩).Ai.Second),i6 ((Ah (win ((BB c (h:Int):Nat):Int) 1 (AB y8)) 417 ⟨(h:Int), -1⟩).e),i6 ((Ah (win ((BB c (h:Int):Nat):Int) 1 (AB y8)) 417 ⟨(h:Int), -1⟩).Ai.First),i6 ((Ah (win ((BB c (h:Int):Nat):Int) 1 (AB y8)) 417 ⟨(h:Int), -1⟩).Ai.Second)] 73
abbrev qt5j_8:=bk n141 #[i6 ((Ah false 415 ⟨(h:Int), -1⟩).e),i6 ((Ah false 415 ⟨(h:Int), -1⟩).Ai.First),i6 ((Ah false 415 ⟨(h:Int), -1⟩).Ai.Second),i6 ((Ah true 416 ⟨(h:Int), -1⟩).e),i6 ((Ah true 416 ⟨(h:Int), -1⟩).Ai.First),i6 ((Ah true 416 ⟨(h:Int), -1⟩).Ai.Second),i6 ((Ah (win ((BB c (h:Int):Nat):Int) 1 (AB y8)) 417 ⟨(h:Int), -1⟩).e),i6 ((Ah (win ((BB c (h:Int):Nat):Int) 1 (AB y8)) 417 ⟨(h:Int), -1⟩).Ai.First),i6 ((Ah (win ((BB c (h:Int):Nat):Int) 1 (AB y8)) 417 ⟨(h:Int), -1⟩).Ai.Second)] 73
abbrev qt5j_9:=bk n251 #[i6 ((Ah false 415 ⟨(h:Int), -1⟩).e),i6 ((Ah false 415 ⟨(h:Int), -1⟩).Ai.First),i6 ((Ah false 415 ⟨(h:Int), -1⟩).Ai.Second),i6 ((Ah true 416 ⟨(h:Int), -1⟩).e),i6 ((Ah true 416 ⟨(h:Int), -1⟩).Ai.First),i6 ((Ah true 416 ⟨(h:Int), -1⟩).Ai.Second),i6 ((Ah (win ((BB c (h:Int):Nat):Int) 1 (AB y8)) 417 ⟨(h:Int), -1⟩).e),i6 ((Ah (win ((BB c (h:Int):Nat):Int) 1 (AB y8)) 417 ⟨(h:Int), -1⟩).Ai.First),i6 ((Ah (win ((BB c (h:Int):Nat):Int) 1 (AB y8)) 417 ⟨(h:Int), -1⟩).Ai.Second)] 73
abbrev Zd6:=bk n297 #[i6 ((Ah false 415 ⟨(h:Int), -1⟩).e),i6 ((Ah false 415 ⟨(h:Int), -1⟩).Ai.First),i6 ((Ah false 415 ⟨(h:Int), -1⟩).Ai.Second),i6 ((Ah true 416 ⟨(h:Int), -1⟩).e),i6 ((Ah true 416 ⟨(h:Int), -1⟩).Ai.First),i6 ((Ah true 416 ⟨(h:Int), -1⟩).Ai.Second),i6 ((Ah (win ((BB c (h:Int):Nat):Int) 1 (AB y8)) 417 ⟨(h:Int), -1⟩).e),i6 ((Ah (win ((BB c (h:Int):Nat):Int) 1 (AB y8)) 417 ⟨(h:Int), -1⟩).Ai.First),i6 ((Ah (win ((BB c (h:Int):Nat):Int) 1 (AB y8)) 417 ⟨(h:Int), -1⟩).Ai.Second)] 73
abbrev Zdx:=bk n95 #[i6 ((Ah false 415 ⟨(h:Int), -1⟩).e),i6 ((Ah false 415 ⟨(h:Int), -1⟩).Ai.First),i6 ((Ah false 415 ⟨(h:Int), -1⟩).Ai.Second),i6 ((Ah true 416 ⟨(h:Int), -1⟩).e),i6 ((Ah true 416 ⟨(h:Int), -1⟩).Ai.First),i6 ((Ah true 416 ⟨(h:Int), -1⟩).Ai.Second),i6 ((Ah (win ((BB c (h:Int):Nat):Int) 1 (AB y8)) 417 ⟨(h:Int), -1⟩).e),i6 ((Ah (win ((BB c (h:Int):Nat):Int) 1 (AB y8)) 417 ⟨(h:Int), -1⟩).Ai.First),i6 ((Ah (win ((BB c (h:Int):Nat):Int) 1 (AB y8)) 417 ⟨(h:Int), -1⟩).Ai.Second)] 73
abbrev Zd9:Ch:= .blk (z+1) (.cells (Ar.arr (Bc [(Ah (Eu y8) 415 ⟨(h:Int), -1⟩),(Ah false 416 ⟨(h:Int), -1⟩),(Ah (win ((BB c (h:Int):Nat):Int) 1 (AB y8)) 417 ⟨(h:Int), -1⟩)])) 73 (0,0)) true
abbrev Zd7:Ch:= .blk (z+1) (.cells (Ar.arr (Bc [(Ah (Eu y8) 415 ⟨(h:Int), -1⟩),(Ah true 416 ⟨(h:Int), -1⟩),(Ah (win ((BB c (h:Int):Nat):Int) 1 (AB y8)) 417 ⟨(h:Int), -1⟩)])) 73 (0,0)) true
abbrev Yz:Ch:= .blk (z+1) (.cells (Ar.arr (Bc [(Ah false 415 ⟨(h:Int), -1⟩),(Ah false 416 ⟨(h:Int), -1⟩),(Ah (win ((BB c (h:Int):Nat):Int) 1 (AB y8)) 417 ⟨(h:Int), -1⟩)])) 73 (0,0)) true
abbrev YG:Ch:= .blk (z+1) (.cells (Ar.arr (Bc [(Ah false 415 ⟨(h:Int), -1⟩),(Ah true 416 ⟨(h:Int), -1⟩),(Ah (win ((BB c (h:Int):Nat):Int) 1 (AB y8)) 417 ⟨(h:Int), -1⟩)])) 73 (0,0)) true
abbrev Jb:=bk (z+1) #[i6 0,i6 0,i6 0] 73
abbrev Gz:=bk (z+2) (AL.arr y8) 55
abbrev FY:=bk z (Aj.arr c) 26
abbrev I5:DJ:=(51,.bool (win ((BB c (h:Int):Nat):Int) 1 (AB y8)))
abbrev IX:DJ:=(43,.agg (Ar.arr (Ah (Eu y8) 415 ⟨(h:Int), -1⟩)))
abbrev JW:DJ:=(48,.agg (Ar.arr (Ah false 416 ⟨(h:Int), -1⟩)))
abbrev EX:DJ:=(43,.agg (Ar.arr (Ah false 415 ⟨(h:Int), -1⟩)))
abbrev JU:DJ:=(48,.agg (Ar.arr (Ah true 416 ⟨(h:Int), -1⟩)))
abbrev U4:DJ:=(42,.agg #[(Ac h),i6 (-1)])
abbrev NK:DJ:=(47,.agg #[(Ac h),i6 (-1)])
abbrev NL:DJ:=(53,.agg #[(Ac h),i6 (-1)])
abbrev NM:=(49,i6 ((BB c (h:Int):Nat):Int))
abbrev Ia:=(8,i6 ((II c (h:Int):Nat):Int))
abbrev E5:=(9,i6 ((BB c (h:Int):Nat):Int))
abbrev Bo:=(4,pt (z+1))
abbrev H7:=(5,pt (z+2))
end
theorem Zb5(w:World)(hL:JM w)(c:Aj)(hc:Aj.ok Any w c)(h:Nat)(hh:h<c.Ag.xs.length)(hm:c.Aa.xs.length≤1024)(hq:∀ p,p<c.Aa.xs.length→(gd c.Aa.xs p).Am.xs.length≤1024):Calls Tryd.prog 50 #[.agg (Aj.arr c),.int .i64 (h:Int)] w fun e w'=>e = .returned (.agg (Ar.arr (Dx c h)))∧CP (fun _=>False) w w':=by
 obtain⟨z,hz⟩:∃ z,z=w.heap.size:=⟨_,rfl⟩
 refine CE (args:=[.agg (Aj.arr c),Ac h]) 57 ⟨w,z,[(Ak w)]⟩ Tryd.func50 rfl (by kernel_rfl) (by kernel_rfl) (Ep hz) ?_
 have hpl:=hc.Ag.1.len
 refine DC [0,1] [(0,.agg (Aj.arr c)),(1,Ac h)] ?_
 refine q_c 5 0 [] [[o0,o0]] [] [(1,Ac h),(2,pt z),(Bo z)] ⟨w,z+2,[(Ak w),(FY c z),(Jb z)]⟩ rfl Ae ?_
 obtain⟨b1,o2,ha3,hF5,hc4⟩:=(hc.Ag).1.all (show 0<c.Ag.xs.length by omega)
 replace ha3:c.Ag.a=some ⟨b1,o2,none⟩:=ha3
 have hc6:=hc4 h (show h<c.Ag.xs.length by omega)
 have he7:=(hc.Ag).2 h (show h<c.Ag.xs.length by omega)
 obtain⟨y8,hy8⟩:∃ y_,y_=gd c.Ag.xs h:=⟨_,rfl⟩
 rw[←hy8]at he7 hc6
 refine q_c 4 0 [] [[o0,(DN 1 b1 o2 c.Ag),o0,(oi h),(ol 0 (AL.arr y8)),o0,(an 3 3)]] [Qb z,Dh b1 o2 c.Ag,Ci h,h<c.Ag.xs.length,BN,Fa w b1 (o2+h*3) (AL.arr y8),Qb (z+2),Qb (z+2),Qb (z+2)] [(1,Ac h),(2,pt z),(Bo z),(H7 z)] ⟨w,z+3,[(Ak w),(FY c z),(Jb z),(Gz y8 z)]⟩ rfl ⟨rfl,Df ha3,rfl,(by omega),rfl,Dt hc6,rfl,rfl,rfl,Ae⟩ ?_
 by_cases h9:(y8.Dn:Int)=0
 ·refine Az 3 0 [] [[o0,(a1 3),oT,o0,o0]] [Qb (z+2),ET y8.Dn 0] [(1,Ac h),(2,pt z),(Bo z),(H7 z),(6,.bool true),(7,i6 4)] rfl ⟨rfl,et,Ae⟩ ?_
  refine WI (fun a w'=>∃ (n10:Nat),z+3≤n10∧St 57 [(1,Ac h),(2,pt z),(Bo z),(H7 z),(6,.bool (Eu y8)),(7,i6 (AB y8))] [] ⟨w,n10,[(Ak w),(FY c z),(Jb z),(Gz y8 z)]⟩ a w') ?_ ?_
  ·refine Ce ?_
   by_cases h12:(y8.Kind:Int)=2
   ·refine Az 5 2 [1] [[o0,(a1 3),oT],[o0,(a1 3)]] [Qb (z+2),ET y8.Kind 2,Qb (z+2)] [(1,Ac h),(2,pt z),(Bo z),(H7 z),(22,i6 y8.Dn)] rfl ⟨rfl,et,rfl,Ae⟩ ?_
    refine Bf 42 #[i6 y8.Dn,i6 1,i6 8] (some 23) (.bool (win y8.Dn 1 8)) (fun w13 hw13=>Cj w13 y8.Dn 1 8) (fun n14 (hn15:z+3≤n14) => ?_)
    refine BP 1 0 [] [[o0,o0]] [] [(1,Ac h),(2,pt z),(Bo z),(H7 z),(6,.bool (win y8.Dn 1 8)),(7,i6 1)] rfl Ae ?_
    have e6:Eu y8=win y8.Dn 1 8:=(if_pos h12).trans (by first | rfl | exact decide_eq_true (by assumption) | exact decide_eq_false (by assumption))
    have e7:AB y8=1:=if_pos h12
    refine BK [1,2,4,5,6,7] [(1,Ac h),(2,pt z),(Bo z),(H7 z),(6,.bool (win y8.Dn 1 8)),(7,i6 1)] ?_
    refine BD (fun a w' hs=>⟨n14,by omega,(by(try dsimp only[Jb,Gz,FY,Bo,H7]at hs ⊢);rw[e6,e7];exact hs)⟩)
   refine Az 5 0 [0] [[o0,(a1 3),oF]] [Qb (z+2),EF y8.Kind 2] [(1,Ac h),(2,pt z),(Bo z),(H7 z),(6,.bool true),(7,i6 4),(20,.bool false)] rfl ⟨rfl,ef,Ae⟩ ?_
   have e6:Eu y8=true:=(if_neg h12).trans (by first | rfl | exact decide_eq_true (by assumption) | exact decide_eq_false (by assumption))
   have e7:AB y8=4:=if_neg h12
   refine BK [1,2,4,5,6,7] [(1,Ac h),(2,pt z),(Bo z),(H7 z),(6,.bool true),(7,i6 4)] ?_
   refine BD (fun a w' hs=>⟨(z+3),by omega,(by(try dsimp only[Jb,Gz,FY,Bo,H7]at hs ⊢);rw[e6,e7];exact hs)⟩)
  rintro a w' ⟨n10,hn11,hs⟩
  refine(?_:G Tryd.prog 57 [(1,Ac h),(2,pt z),(Bo z),(H7 z),(6,.bool (Eu y8)),(7,i6 (AB y8))] [] ⟨w,n10,[(Ak w),(FY c z),(Jb z),(Gz y8 z)]⟩ _ _ _) a w' hs
  clear hs a w'
  refine Az 2 2 [] [[(an 7 1),o0]] [Qb z,Qb z,Qb z,Qb z,Qb z,Qb z,Qb z] [(1,Ac h),(Bo z),(H7 z),(6,.bool (Eu y8)),(7,i6 (AB y8)),(25,.agg (Aj.arr c)),(26,Ac h)] rfl ⟨rfl,rfl,rfl,rfl,rfl,rfl,rfl,Ae⟩ ?_
  refine Bf 71 #[.agg (Aj.arr c),Ac h] (some 27) (.tuple #[i6 ((II c (h:Int):Nat):Int),i6 ((BB c (h:Int):Nat):Int)]) (fun w16 hw16=>RJ w16 c (hc.ext (hw16.ext rfl) (fun _ h=>h)) (h:Int) hm hq) (fun n17 (hn18:n10≤n17) => ?_)
  refine BP 4 2 [] [[o0,o0,o0,o0,o0],[o0,(a1 3)]] [Qb (z+2)] [(1,Ac h),(Bo z),(H7 z),(6,.bool (Eu y8)),(7,i6 (AB y8)),(Ia h c),(E5 h c),(31,i6 y8.Kind)] rfl ⟨rfl,Ae⟩ ?_
  refine Bf 42 #[i6 y8.Kind,i6 1,i6 2] (some 32) (.bool (win y8.Kind 1 2)) (fun w19 hw19=>Cj w19 y8.Kind 1 2) (fun n20 (hn21:n17≤n20) => ?_)
  refine Dc [1,4,5,6,7,8,9,32] [(1,Ac h),(Bo z),(H7 z),(6,.bool (Eu y8)),(7,i6 (AB y8)),(Ia h c),(E5 h c),(32,.bool (win y8.Kind 1 2))] ?_
  by_cases h22:(win y8.Kind 1 2)=true
  ·have hd23:=EE h22
   refine BP 0 3 [] [[(ov (.bool true)),o0,(a1 3)]] [Value.bool (win y8.Kind 1 2)=Value.bool true,Qb (z+2)] [(1,Ac h),(Bo z),(6,.bool (Eu y8)),(7,i6 (AB y8)),(Ia h c),(E5 h c),(33,.bool true),(35,i6 y8.Words)] rfl ⟨(congrArg Value.bool h22),rfl,Ae⟩ ?_
   refine Bf 42 #[i6 y8.Words,i6 1,i6 16] (some 36) (.bool (win y8.Words 1 16)) (fun w24 hw24=>Cj w24 y8.Words 1 16) (fun n25 (hn26:n20≤n25) => ?_)
   refine Dc [1,4,6,7,8,9,33,36] [(1,Ac h),(Bo z),(6,.bool (Eu y8)),(7,i6 (AB y8)),(Ia h c),(E5 h c),(33,.bool true),(36,.bool (win y8.Words 1 16))] ?_
   by_cases h27:(win y8.Words 1 16)=true
   ·have hd28:=EE h27
    refine BP 0 5 [] [[o0,(ov (.bool true)),o0,o0,o0]] [Value.bool (win y8.Words 1 16)=Value.bool true] [(1,Ac h),(Bo z),(7,i6 (AB y8)),(Ia h c),(E5 h c),(40,.bool (Eu y8)),(41,Ac h)] rfl ⟨(congrArg Value.bool h27),Ae⟩ ?_
    refine Bf 67 #[(Ac h)] (some 42) (.agg #[(Ac h),i6 (-1)]) (fun w29 hw29=>DR w29 (h:Int)) (fun n30 (hn31:n25≤n30) => ?_)
    refine Dc [1,4,7,8,9,40,42] [(1,Ac h),(Bo z),(7,i6 (AB y8)),(Ia h c),(E5 h c),(40,.bool (Eu y8)),(U4 h)] ?_
    refine Bf 41 #[.bool (Eu y8),i6 415,.agg #[(Ac h),i6 (-1)]] (some 43) (.agg (Ar.arr (Ah (Eu y8) 415 ⟨(h:Int), -1⟩))) (fun w32 hw32=>Bz w32 (hL.ext (hw32.ext rfl)) (Eu y8) 415 (h:Int) (-1)) (fun n33 (hn34:n30≤n33) => ?_)
    refine Dc [1,4,7,8,9,43] [(1,Ac h),(Bo z),(7,i6 (AB y8)),(Ia h c),(E5 h c),(IX y8 h)] ?_
    by_cases h35:(((II c (h:Int):Nat):Int):Int)=1
    ·refine BP 0 3 [] [[o0,oT,o0]] [ET ((II c (h:Int):Nat):Int) 1] [(1,Ac h),(Bo z),(7,i6 (AB y8)),(E5 h c),(IX y8 h),(45,.bool true),(46,Ac h)] rfl ⟨et,Ae⟩ ?_
     refine Bf 67 #[(Ac h)] (some 47) (.agg #[(Ac h),i6 (-1)]) (fun w36 hw36=>DR w36 (h:Int)) (fun n37 (hn38:n33≤n37) => ?_)
     refine Dc [1,4,7,9,43,45,47] [(1,Ac h),(Bo z),(7,i6 (AB y8)),(E5 h c),(IX y8 h),(45,.bool true),(NK h)] ?_
     refine Bf 41 #[.bool true,i6 416,.agg #[(Ac h),i6 (-1)]] (some 48) (.agg (Ar.arr (Ah true 416 ⟨(h:Int), -1⟩))) (fun w39 hw39=>Bz w39 (hL.ext (hw39.ext rfl)) true 416 (h:Int) (-1)) (fun n40 (hn41:n37≤n40) => ?_)
     refine BP 0 2 [] [[o0,o0]] [] [(1,Ac h),(Bo z),(IX y8 h),(JU h),(NM h c),(50,i6 (AB y8))] rfl Ae ?_
     refine Bf 42 #[i6 ((BB c (h:Int):Nat):Int),i6 1,i6 (AB y8)] (some 51) (.bool (win ((BB c (h:Int):Nat):Int) 1 (AB y8))) (fun w42 hw42=>Cj w42 ((BB c (h:Int):Nat):Int) 1 (AB y8)) (fun n43 (hn44:n40≤n43) => ?_)
     refine BP 0 1 [] [[o0]] [] [(Bo z),(IX y8 h),(JU h),(I5 y8 h c),(52,Ac h)] rfl Ae ?_
     refine Bf 67 #[(Ac h)] (some 53) (.agg #[(Ac h),i6 (-1)]) (fun w45 hw45=>DR w45 (h:Int)) (fun n46 (hn47:n43≤n46) => ?_)
     refine Dc [4,43,48,51,53] [(Bo z),(IX y8 h),(JU h),(I5 y8 h c),(NL h)] ?_
     refine Bf 41 #[.bool (win ((BB c (h:Int):Nat):Int) 1 (AB y8)),i6 417,.agg #[(Ac h),i6 (-1)]] (some 54) (.agg (Ar.arr (Ah (win ((BB c (h:Int):Nat):Int) 1 (AB y8)) 417 ⟨(h:Int), -1⟩))) (fun w48 hw48=>Bz w48 (hL.ext (hw48.ext rfl)) (win ((BB c (h:Int):Nat):Int) 1 (AB y8)) 417 (h:Int) (-1)) (fun n49 (hn50:n46≤n49) => ?_)
     refine EY 0 1 [] [[o0]] [] [(Bo z),(55,.slice (some ⟨n49,0,none⟩) 3 3)] ⟨w,n49+1,[(Ak w),(FY c z),(Jb z),(Gz y8 z),(qt5j_3 y8 h c n49)]⟩ rfl Ae ?_
     refine Bf 65 #[.slice (some ⟨n49,0,none⟩) 3 3] (some 56) (.agg (Ar.arr (Bc [(Ah (Eu y8) 415 ⟨(h:Int), -1⟩),(Ah true 416 ⟨(h:Int), -1⟩),(Ah (win ((BB c (h:Int):Nat):Int) 1 (AB y8)) 417 ⟨(h:Int), -1⟩)]))) (fun w51 hw51=>DZ w51 (hL.ext (hw51.ext rfl)) ⟨some ⟨n49,0,none⟩,3,[(Ah (Eu y8) 415 ⟨(h:Int), -1⟩),(Ah true 416 ⟨(h:Int), -1⟩),(Ah (win ((BB c (h:Int):Nat):Int) 1 (AB y8)) 417 ⟨(h:Int), -1⟩)]⟩ (EP hw51 (i:=4) [(Ah (Eu y8) 415 ⟨(h:Int), -1⟩),(Ah true 416 ⟨(h:Int), -1⟩),(Ah (win ((BB c (h:Int):Nat):Int) 1 (AB y8)) 417 ⟨(h:Int), -1⟩)]) (show 3≤1000 by decide)) (fun n52 (hn53:n49+1≤n52) => ?_)
     refine EY 3 0 [] [[(an 3 2)]] [Qb (z+1),Qb (z+1),Qb (z+1)] [(Bo z)] ⟨w,n52,[(Ak w),(FY c z),(Zd7 y8 h c z),(Gz y8 z),(qt5j_3 y8 h c n49)]⟩ rfl ⟨rfl,rfl,rfl,Ae⟩ ?_
     refine AA [.at 2,.at 2,.at 2] [Qb (z+1),Qb (z+1),Qb (z+1)] (.agg #[i6 ((Bc [(Ah (Eu y8) 415 ⟨(h:Int), -1⟩),(Ah true 416 ⟨(h:Int), -1⟩),(Ah (win ((BB c (h:Int):Nat):Int) 1 (AB y8)) 417 ⟨(h:Int), -1⟩)]).e),i6 ((Bc [(Ah (Eu y8) 415 ⟨(h:Int), -1⟩),(Ah true 416 ⟨(h:Int), -1⟩),(Ah (win ((BB c (h:Int):Nat):Int) 1 (AB y8)) 417 ⟨(h:Int), -1⟩)]).Ai.First),i6 ((Bc [(Ah (Eu y8) 415 ⟨(h:Int), -1⟩),(Ah true 416 ⟨(h:Int), -1⟩),(Ah (win ((BB c (h:Int):Nat):Int) 1 (AB y8)) 417 ⟨(h:Int), -1⟩)]).Ai.Second)]) ⟨rfl,rfl,rfl,Ae⟩ ?_
     intro w54 hw54
     have e0:MF c h=y8:=hy8.symm
     have eC:Dx c h=(Bc [(Ah (Eu y8) 415 ⟨(h:Int), -1⟩),(Ah true 416 ⟨(h:Int), -1⟩),(Ah (win ((BB c (h:Int):Nat):Int) 1 (AB y8)) 417 ⟨(h:Int), -1⟩)]):=by unfold Dx;simp only[e0];simp[h22,h27,h35]
     exact⟨congrArg (fun t=>Ending.returned (Value.agg (Ar.arr t))) eC.symm,AO hw54⟩
    refine BP 0 3 [] [[o0,oF,o0]] [EF ((II c (h:Int):Nat):Int) 1] [(1,Ac h),(Bo z),(7,i6 (AB y8)),(E5 h c),(IX y8 h),(45,.bool false),(46,Ac h)] rfl ⟨ef,Ae⟩ ?_
    refine Bf 67 #[(Ac h)] (some 47) (.agg #[(Ac h),i6 (-1)]) (fun w55 hw55=>DR w55 (h:Int)) (fun n56 (hn57:n33≤n56) => ?_)
    refine Dc [1,4,7,9,43,45,47] [(1,Ac h),(Bo z),(7,i6 (AB y8)),(E5 h c),(IX y8 h),(45,.bool false),(NK h)] ?_
    refine Bf 41 #[.bool false,i6 416,.agg #[(Ac h),i6 (-1)]] (some 48) (.agg (Ar.arr (Ah false 416 ⟨(h:Int), -1⟩))) (fun w58 hw58=>Bz w58 (hL.ext (hw58.ext rfl)) false 416 (h:Int) (-1)) (fun n59 (hn60:n56≤n59) => ?_)
    refine BP 0 2 [] [[o0,o0]] [] [(1,Ac h),(Bo z),(IX y8 h),(JW h),(NM h c),(50,i6 (AB y8))] rfl Ae ?_
    refine Bf 42 #[i6 ((BB c (h:Int):Nat):Int),i6 1,i6 (AB y8)] (some 51) (.bool (win ((BB c (h:Int):Nat):Int) 1 (AB y8))) (fun w61 hw61=>Cj w61 ((BB c (h:Int):Nat):Int) 1 (AB y8)) (fun n62 (hn63:n59≤n62) => ?_)
    refine BP 0 1 [] [[o0]] [] [(Bo z),(IX y8 h),(JW h),(I5 y8 h c),(52,Ac h)] rfl Ae ?_
    refine Bf 67 #[(Ac h)] (some 53) (.agg #[(Ac h),i6 (-1)]) (fun w64 hw64=>DR w64 (h:Int)) (fun n65 (hn66:n62≤n65) => ?_)
    refine Dc [4,43,48,51,53] [(Bo z),(IX y8 h),(JW h),(I5 y8 h c),(NL h)] ?_
    refine Bf 41 #[.bool (win ((BB c (h:Int):Nat):Int) 1 (AB y8)),i6 417,.agg #[(Ac h),i6 (-1)]] (some 54) (.agg (Ar.arr (Ah (win ((BB c (h:Int):Nat):Int) 1 (AB y8)) 417 ⟨(h:Int), -1⟩))) (fun w67 hw67=>Bz w67 (hL.ext (hw67.ext rfl)) (win ((BB c (h:Int):Nat):Int) 1 (AB y8)) 417 (h:Int) (-1)) (fun n68 (hn69:n65≤n68) => ?_)
    refine EY 0 1 [] [[o0]] [] [(Bo z),(55,.slice (some ⟨n68,0,none⟩) 3 3)] ⟨w,n68+1,[(Ak w),(FY c z),(Jb z),(Gz y8 z),(qt5j_1 y8 h c n68)]⟩ rfl Ae ?_
    refine Bf 65 #[.slice (some ⟨n68,0,none⟩) 3 3] (some 56) (.agg (Ar.arr (Bc [(Ah (Eu y8) 415 ⟨(h:Int), -1⟩),(Ah false 416 ⟨(h:Int), -1⟩),(Ah (win ((BB c (h:Int):Nat):Int) 1 (AB y8)) 417 ⟨(h:Int), -1⟩)]))) (fun w70 hw70=>DZ w70 (hL.ext (hw70.ext rfl)) ⟨some ⟨n68,0,none⟩,3,[(Ah (Eu y8) 415 ⟨(h:Int), -1⟩),(Ah false 416 ⟨(h:Int), -1⟩),(Ah (win ((BB c (h:Int):Nat):Int) 1 (AB y8)) 417 ⟨(h:Int), -1⟩)]⟩ (EP hw70 (i:=4) [(Ah (Eu y8) 415 ⟨(h:Int), -1⟩),(Ah false 416 ⟨(h:Int), -1⟩),(Ah (win ((BB c (h:Int):Nat):Int) 1 (AB y8)) 417 ⟨(h:Int), -1⟩)]) (show 3≤1000 by decide)) (fun n71 (hn72:n68+1≤n71) => ?_)
    refine EY 3 0 [] [[(an 3 2)]] [Qb (z+1),Qb (z+1),Qb (z+1)] [(Bo z)] ⟨w,n71,[(Ak w),(FY c z),(Zd9 y8 h c z),(Gz y8 z),(qt5j_1 y8 h c n68)]⟩ rfl ⟨rfl,rfl,rfl,Ae⟩ ?_
    refine AA [.at 2,.at 2,.at 2] [Qb (z+1),Qb (z+1),Qb (z+1)] (.agg #[i6 ((Bc [(Ah (Eu y8) 415 ⟨(h:Int), -1⟩),(Ah false 416 ⟨(h:Int), -1⟩),(Ah (win ((BB c (h:Int):Nat):Int) 1 (AB y8)) 417 ⟨(h:Int), -1⟩)]).e),i6 ((Bc [(Ah (Eu y8) 415 ⟨(h:Int), -1⟩),(Ah false 416 ⟨(h:Int), -1⟩),(Ah (win ((BB c (h:Int):Nat):Int) 1 (AB y8)) 417 ⟨(h:Int), -1⟩)]).Ai.First),i6 ((Bc [(Ah (Eu y8) 415 ⟨(h:Int), -1⟩),(Ah false 416 ⟨(h:Int), -1⟩),(Ah (win ((BB c (h:Int):Nat):Int) 1 (AB y8)) 417 ⟨(h:Int), -1⟩)]).Ai.Second)]) ⟨rfl,rfl,rfl,Ae⟩ ?_
    intro w73 hw73
    have e0:MF c h=y8:=hy8.symm
    have eC:Dx c h=(Bc [(Ah (Eu y8) 415 ⟨(h:Int), -1⟩),(Ah false 416 ⟨(h:Int), -1⟩),(Ah (win ((BB c (h:Int):Nat):Int) 1 (AB y8)) 417 ⟨(h:Int), -1⟩)]):=by unfold Dx;simp only[e0];simp[h22,h27,h35]
    exact⟨congrArg (fun t=>Ending.returned (Value.agg (Ar.arr t))) eC.symm,AO hw73⟩
   have hd74:=FQ h27
   refine BP 0 5 [] [[o0,(ov (.bool false)),o0,o0]] [Value.bool (win y8.Words 1 16)=Value.bool false] [(1,Ac h),(Bo z),(7,i6 (AB y8)),(Ia h c),(E5 h c),(40,.bool false),(41,Ac h)] rfl ⟨(congrArg Value.bool (Bool.eq_false_iff.2 h27)),Ae⟩ ?_
   refine Bf 67 #[(Ac h)] (some 42) (.agg #[(Ac h),i6 (-1)]) (fun w75 hw75=>DR w75 (h:Int)) (fun n76 (hn77:n25≤n76) => ?_)
   refine Dc [1,4,7,8,9,40,42] [(1,Ac h),(Bo z),(7,i6 (AB y8)),(Ia h c),(E5 h c),(40,.bool false),(U4 h)] ?_
   refine Bf 41 #[.bool false,i6 415,.agg #[(Ac h),i6 (-1)]] (some 43) (.agg (Ar.arr (Ah false 415 ⟨(h:Int), -1⟩))) (fun w78 hw78=>Bz w78 (hL.ext (hw78.ext rfl)) false 415 (h:Int) (-1)) (fun n79 (hn80:n76≤n79) => ?_)
   refine Dc [1,4,7,8,9,43] [(1,Ac h),(Bo z),(7,i6 (AB y8)),(Ia h c),(E5 h c),(EX h)] ?_
   by_cases h81:(((II c (h:Int):Nat):Int):Int)=1
   ·refine BP 0 3 [] [[o0,oT,o0]] [ET ((II c (h:Int):Nat):Int) 1] [(1,Ac h),(Bo z),(7,i6 (AB y8)),(E5 h c),(EX h),(45,.bool true),(46,Ac h)] rfl ⟨et,Ae⟩ ?_
    refine Bf 67 #[(Ac h)] (some 47) (.agg #[(Ac h),i6 (-1)]) (fun w82 hw82=>DR w82 (h:Int)) (fun n83 (hn84:n79≤n83) => ?_)
    refine Dc [1,4,7,9,43,45,47] [(1,Ac h),(Bo z),(7,i6 (AB y8)),(E5 h c),(EX h),(45,.bool true),(NK h)] ?_
    refine Bf 41 #[.bool true,i6 416,.agg #[(Ac h),i6 (-1)]] (some 48) (.agg (Ar.arr (Ah true 416 ⟨(h:Int), -1⟩))) (fun w85 hw85=>Bz w85 (hL.ext (hw85.ext rfl)) true 416 (h:Int) (-1)) (fun n86 (hn87:n83≤n86) => ?_)
    refine BP 0 2 [] [[o0,o0]] [] [(1,Ac h),(Bo z),(EX h),(JU h),(NM h c),(50,i6 (AB y8))] rfl Ae ?_
    refine Bf 42 #[i6 ((BB c (h:Int):Nat):Int),i6 1,i6 (AB y8)] (some 51) (.bool (win ((BB c (h:Int):Nat):Int) 1 (AB y8))) (fun w88 hw88=>Cj w88 ((BB c (h:Int):Nat):Int) 1 (AB y8)) (fun n89 (hn90:n86≤n89) => ?_)
    refine BP 0 1 [] [[o0]] [] [(Bo z),(EX h),(JU h),(I5 y8 h c),(52,Ac h)] rfl Ae ?_
    refine Bf 67 #[(Ac h)] (some 53) (.agg #[(Ac h),i6 (-1)]) (fun w91 hw91=>DR w91 (h:Int)) (fun n92 (hn93:n89≤n92) => ?_)
    refine Dc [4,43,48,51,53] [(Bo z),(EX h),(JU h),(I5 y8 h c),(NL h)] ?_
    refine Bf 41 #[.bool (win ((BB c (h:Int):Nat):Int) 1 (AB y8)),i6 417,.agg #[(Ac h),i6 (-1)]] (some 54) (.agg (Ar.arr (Ah (win ((BB c (h:Int):Nat):Int) 1 (AB y8)) 417 ⟨(h:Int), -1⟩))) (fun w94 hw94=>Bz w94 (hL.ext (hw94.ext rfl)) (win ((BB c (h:Int):Nat):Int) 1 (AB y8)) 417 (h:Int) (-1)) (fun n95 (hn96:n92≤n95) => ?_)
    refine EY 0 1 [] [[o0]] [] [(Bo z),(55,.slice (some ⟨n95,0,none⟩) 3 3)] ⟨w,n95+1,[(Ak w),(FY c z),(Jb z),(Gz y8 z),(Zdx y8 h c n95)]⟩ rfl Ae ?_
    refine Bf 65 #[.slice (some ⟨n95,0,none⟩) 3 3] (some 56) (.agg (Ar.arr (Bc [(Ah false 415 ⟨(h:Int), -1⟩),(Ah true 416 ⟨(h:Int), -1⟩),(Ah (win ((BB c (h:Int):Nat):Int) 1 (AB y8)) 417 ⟨(h:Int), -1⟩)]))) (fun w97 hw97=>DZ w97 (hL.ext (hw97.ext rfl)) ⟨some ⟨n95,0,none⟩,3,[(Ah false 415 ⟨(h:Int), -1⟩),(Ah true 416 ⟨(h:Int), -1⟩),(Ah (win ((BB c (h:Int):Nat):Int) 1 (AB y8)) 417 ⟨(h:Int), -1⟩)]⟩ (EP hw97 (i:=4) [(Ah false 415 ⟨(h:Int), -1⟩),(Ah true 416 ⟨(h:Int), -1⟩),(Ah (win ((BB c (h:Int):Nat):Int) 1 (AB y8)) 417 ⟨(h:Int), -1⟩)]) (show 3≤1000 by decide)) (fun n98 (hn99:n95+1≤n98) => ?_)
    refine EY 3 0 [] [[(an 3 2)]] [Qb (z+1),Qb (z+1),Qb (z+1)] [(Bo z)] ⟨w,n98,[(Ak w),(FY c z),(YG y8 h c z),(Gz y8 z),(Zdx y8 h c n95)]⟩ rfl ⟨rfl,rfl,rfl,Ae⟩ ?_
    refine AA [.at 2,.at 2,.at 2] [Qb (z+1),Qb (z+1),Qb (z+1)] (.agg #[i6 ((Bc [(Ah false 415 ⟨(h:Int), -1⟩),(Ah true 416 ⟨(h:Int), -1⟩),(Ah (win ((BB c (h:Int):Nat):Int) 1 (AB y8)) 417 ⟨(h:Int), -1⟩)]).e),i6 ((Bc [(Ah false 415 ⟨(h:Int), -1⟩),(Ah true 416 ⟨(h:Int), -1⟩),(Ah (win ((BB c (h:Int):Nat):Int) 1 (AB y8)) 417 ⟨(h:Int), -1⟩)]).Ai.First),i6 ((Bc [(Ah false 415 ⟨(h:Int), -1⟩),(Ah true 416 ⟨(h:Int), -1⟩),(Ah (win ((BB c (h:Int):Nat):Int) 1 (AB y8)) 417 ⟨(h:Int), -1⟩)]).Ai.Second)]) ⟨rfl,rfl,rfl,Ae⟩ ?_
    intro w100 hw100
    have e0:MF c h=y8:=hy8.symm
    have eC:Dx c h=(Bc [(Ah false 415 ⟨(h:Int), -1⟩),(Ah true 416 ⟨(h:Int), -1⟩),(Ah (win ((BB c (h:Int):Nat):Int) 1 (AB y8)) 417 ⟨(h:Int), -1⟩)]):=by unfold Dx;simp only[e0];simp[h22,h27,h81]
    exact⟨congrArg (fun t=>Ending.returned (Value.agg (Ar.arr t))) eC.symm,AO hw100⟩
   refine BP 0 3 [] [[o0,oF,o0]] [EF ((II c (h:Int):Nat):Int) 1] [(1,Ac h),(Bo z),(7,i6 (AB y8)),(E5 h c),(EX h),(45,.bool false),(46,Ac h)] rfl ⟨ef,Ae⟩ ?_
   refine Bf 67 #[(Ac h)] (some 47) (.agg #[(Ac h),i6 (-1)]) (fun w101 hw101=>DR w101 (h:Int)) (fun n102 (hn103:n79≤n102) => ?_)
   refine Dc [1,4,7,9,43,45,47] [(1,Ac h),(Bo z),(7,i6 (AB y8)),(E5 h c),(EX h),(45,.bool false),(NK h)] ?_
   refine Bf 41 #[.bool false,i6 416,.agg #[(Ac h),i6 (-1)]] (some 48) (.agg (Ar.arr (Ah false 416 ⟨(h:Int), -1⟩))) (fun w104 hw104=>Bz w104 (hL.ext (hw104.ext rfl)) false 416 (h:Int) (-1)) (fun n105 (hn106:n102≤n105) => ?_)
   refine BP 0 2 [] [[o0,o0]] [] [(1,Ac h),(Bo z),(EX h),(JW h),(NM h c),(50,i6 (AB y8))] rfl Ae ?_
   refine Bf 42 #[i6 ((BB c (h:Int):Nat):Int),i6 1,i6 (AB y8)] (some 51) (.bool (win ((BB c (h:Int):Nat):Int) 1 (AB y8))) (fun w107 hw107=>Cj w107 ((BB c (h:Int):Nat):Int) 1 (AB y8)) (fun n108 (hn109:n105≤n108) => ?_)
   refine BP 0 1 [] [[o0]] [] [(Bo z),(EX h),(JW h),(I5 y8 h c),(52,Ac h)] rfl Ae ?_
   refine Bf 67 #[(Ac h)] (some 53) (.agg #[(Ac h),i6 (-1)]) (fun w110 hw110=>DR w110 (h:Int)) (fun n111 (hn112:n108≤n111) => ?_)
   refine Dc [4,43,48,51,53] [(Bo z),(EX h),(JW h),(I5 y8 h c),(NL h)] ?_
   refine Bf 41 #[.bool (win ((BB c (h:Int):Nat):Int) 1 (AB y8)),i6 417,.agg #[(Ac h),i6 (-1)]] (some 54) (.agg (Ar.arr (Ah (win ((BB c (h:Int):Nat):Int) 1 (AB y8)) 417 ⟨(h:Int), -1⟩))) (fun w113 hw113=>Bz w113 (hL.ext (hw113.ext rfl)) (win ((BB c (h:Int):Nat):Int) 1 (AB y8)) 417 (h:Int) (-1)) (fun n114 (hn115:n111≤n114) => ?_)
   refine EY 0 1 [] [[o0]] [] [(Bo z),(55,.slice (some ⟨n114,0,none⟩) 3 3)] ⟨w,n114+1,[(Ak w),(FY c z),(Jb z),(Gz y8 z),(qt5j_4 y8 h c n114)]⟩ rfl Ae ?_
   refine Bf 65 #[.slice (some ⟨n114,0,none⟩) 3 3] (some 56) (.agg (Ar.arr (Bc [(Ah false 415 ⟨(h:Int), -1⟩),(Ah false 416 ⟨(h:Int), -1⟩),(Ah (win ((BB c (h:Int):Nat):Int) 1 (AB y8)) 417 ⟨(h:Int), -1⟩)]))) (fun w116 hw116=>DZ w116 (hL.ext (hw116.ext rfl)) ⟨some ⟨n114,0,none⟩,3,[(Ah false 415 ⟨(h:Int), -1⟩),(Ah false 416 ⟨(h:Int), -1⟩),(Ah (win ((BB c (h:Int):Nat):Int) 1 (AB y8)) 417 ⟨(h:Int), -1⟩)]⟩ (EP hw116 (i:=4) [(Ah false 415 ⟨(h:Int), -1⟩),(Ah false 416 ⟨(h:Int), -1⟩),(Ah (win ((BB c (h:Int):Nat):Int) 1 (AB y8)) 417 ⟨(h:Int), -1⟩)]) (show 3≤1000 by decide)) (fun n117 (hn118:n114+1≤n117) => ?_)
   refine EY 3 0 [] [[(an 3 2)]] [Qb (z+1),Qb (z+1),Qb (z+1)] [(Bo z)] ⟨w,n117,[(Ak w),(FY c z),(Yz y8 h c z),(Gz y8 z),(qt5j_4 y8 h c n114)]⟩ rfl ⟨rfl,rfl,rfl,Ae⟩ ?_
   refine AA [.at 2,.at 2,.at 2] [Qb (z+1),Qb (z+1),Qb (z+1)] (.agg #[i6 ((Bc [(Ah false 415 ⟨(h:Int), -1⟩),(Ah false 416 ⟨(h:Int), -1⟩),(Ah (win ((BB c (h:Int):Nat):Int) 1 (AB y8)) 417 ⟨(h:Int), -1⟩)]).e),i6 ((Bc [(Ah false 415 ⟨(h:Int), -1⟩),(Ah false 416 ⟨(h:Int), -1⟩),(Ah (win ((BB c (h:Int):Nat):Int) 1 (AB y8)) 417 ⟨(h:Int), -1⟩)]).Ai.First),i6 ((Bc [(Ah false 415 ⟨(h:Int), -1⟩),(Ah false 416 ⟨(h:Int), -1⟩),(Ah (win ((BB c (h:Int):Nat):Int) 1 (AB y8)) 417 ⟨(h:Int), -1⟩)]).Ai.Second)]) ⟨rfl,rfl,rfl,Ae⟩ ?_
   intro w119 hw119
   have e0:MF c h=y8:=hy8.symm
   have eC:Dx c h=(Bc [(Ah false 415 ⟨(h:Int), -1⟩),(Ah false 416 ⟨(h:Int), -1⟩),(Ah (win ((BB c (h:Int):Nat):Int) 1 (AB y8)) 417 ⟨(h:Int), -1⟩)]):=by unfold Dx;simp only[e0];simp[h22,h27,h81]
   exact⟨congrArg (fun t=>Ending.returned (Value.agg (Ar.arr t))) eC.symm,AO hw119⟩
  have hd120:=FQ h22
  refine BP 0 9 [] [[(ov (.bool false)),o0,o0,o0,o0]] [Value.bool (win y8.Kind 1 2)=Value.bool false] [(1,Ac h),(Bo z),(7,i6 (AB y8)),(Ia h c),(E5 h c),(40,.bool false),(41,Ac h)] rfl ⟨(congrArg Value.bool (Bool.eq_false_iff.2 h22)),Ae⟩ ?_
  refine Bf 67 #[(Ac h)] (some 42) (.agg #[(Ac h),i6 (-1)]) (fun w121 hw121=>DR w121 (h:Int)) (fun n122 (hn123:n20≤n122) => ?_)
  refine Dc [1,4,7,8,9,40,42] [(1,Ac h),(Bo z),(7,i6 (AB y8)),(Ia h c),(E5 h c),(40,.bool false),(U4 h)] ?_
  refine Bf 41 #[.bool false,i6 415,.agg #[(Ac h),i6 (-1)]] (some 43) (.agg (Ar.arr (Ah false 415 ⟨(h:Int), -1⟩))) (fun w124 hw124=>Bz w124 (hL.ext (hw124.ext rfl)) false 415 (h:Int) (-1)) (fun n125 (hn126:n122≤n125) => ?_)
  refine Dc [1,4,7,8,9,43] [(1,Ac h),(Bo z),(7,i6 (AB y8)),(Ia h c),(E5 h c),(EX h)] ?_
  by_cases h127:(((II c (h:Int):Nat):Int):Int)=1
  ·refine BP 0 3 [] [[o0,oT,o0]] [ET ((II c (h:Int):Nat):Int) 1] [(1,Ac h),(Bo z),(7,i6 (AB y8)),(E5 h c),(EX h),(45,.bool true),(46,Ac h)] rfl ⟨et,Ae⟩ ?_
   refine Bf 67 #[(Ac h)] (some 47) (.agg #[(Ac h),i6 (-1)]) (fun w128 hw128=>DR w128 (h:Int)) (fun n129 (hn130:n125≤n129) => ?_)
   refine Dc [1,4,7,9,43,45,47] [(1,Ac h),(Bo z),(7,i6 (AB y8)),(E5 h c),(EX h),(45,.bool true),(NK h)] ?_
   refine Bf 41 #[.bool true,i6 416,.agg #[(Ac h),i6 (-1)]] (some 48) (.agg (Ar.arr (Ah true 416 ⟨(h:Int), -1⟩))) (fun w131 hw131=>Bz w131 (hL.ext (hw131.ext rfl)) true 416 (h:Int) (-1)) (fun n132 (hn133:n129≤n132) => ?_)
   refine BP 0 2 [] [[o0,o0]] [] [(1,Ac h),(Bo z),(EX h),(JU h),(NM h c),(50,i6 (AB y8))] rfl Ae ?_
   refine Bf 42 #[i6 ((BB c (h:Int):Nat):Int),i6 1,i6 (AB y8)] (some 51) (.bool (win ((BB c (h:Int):Nat):Int) 1 (AB y8))) (fun w134 hw134=>Cj w134 ((BB c (h:Int):Nat):Int) 1 (AB y8)) (fun n135 (hn136:n132≤n135) => ?_)
   refine BP 0 1 [] [[o0]] [] [(Bo z),(EX h),(JU h),(I5 y8 h c),(52,Ac h)] rfl Ae ?_
   refine Bf 67 #[(Ac h)] (some 53) (.agg #[(Ac h),i6 (-1)]) (fun w137 hw137=>DR w137 (h:Int)) (fun n138 (hn139:n135≤n138) => ?_)
   refine Dc [4,43,48,51,53] [(Bo z),(EX h),(JU h),(I5 y8 h c),(NL h)] ?_
   refine Bf 41 #[.bool (win ((BB c (h:Int):Nat):Int) 1 (AB y8)),i6 417,.agg #[(Ac h),i6 (-1)]] (some 54) (.agg (Ar.arr (Ah (win ((BB c (h:Int):Nat):Int) 1 (AB y8)) 417 ⟨(h:Int), -1⟩))) (fun w140 hw140=>Bz w140 (hL.ext (hw140.ext rfl)) (win ((BB c (h:Int):Nat):Int) 1 (AB y8)) 417 (h:Int) (-1)) (fun n141 (hn142:n138≤n141) => ?_)
   refine EY 0 1 [] [[o0]] [] [(Bo z),(55,.slice (some ⟨n141,0,none⟩) 3 3)] ⟨w,n141+1,[(Ak w),(FY c z),(Jb z),(Gz y8 z),(qt5j_8 y8 h c n141)]⟩ rfl Ae ?_
   refine Bf 65 #[.slice (some ⟨n141,0,none⟩) 3 3] (some 56) (.agg (Ar.arr (Bc [(Ah false 415 ⟨(h:Int), -1⟩),(Ah true 416 ⟨(h:Int), -1⟩),(Ah (win ((BB c (h:Int):Nat):Int) 1 (AB y8)) 417 ⟨(h:Int), -1⟩)]))) (fun w143 hw143=>DZ w143 (hL.ext (hw143.ext rfl)) ⟨some ⟨n141,0,none⟩,3,[(Ah false 415 ⟨(h:Int), -1⟩),(Ah true 416 ⟨(h:Int), -1⟩),(Ah (win ((BB c (h:Int):Nat):Int) 1 (AB y8)) 417 ⟨(h:Int), -1⟩)]⟩ (EP hw143 (i:=4) [(Ah false 415 ⟨(h:Int), -1⟩),(Ah true 416 ⟨(h:Int), -1⟩),(Ah (win ((BB c (h:Int):Nat):Int) 1 (AB y8)) 417 ⟨(h:Int), -1⟩)]) (show 3≤1000 by decide)) (fun n144 (hn145:n141+1≤n144) => ?_)
   refine EY 3 0 [] [[(an 3 2)]] [Qb (z+1),Qb (z+1),Qb (z+1)] [(Bo z)] ⟨w,n144,[(Ak w),(FY c z),(YG y8 h c z),(Gz y8 z),(qt5j_8 y8 h c n141)]⟩ rfl ⟨rfl,rfl,rfl,Ae⟩ ?_
   refine AA [.at 2,.at 2,.at 2] [Qb (z+1),Qb (z+1),Qb (z+1)] (.agg #[i6 ((Bc [(Ah false 415 ⟨(h:Int), -1⟩),(Ah true 416 ⟨(h:Int), -1⟩),(Ah (win ((BB c (h:Int):Nat):Int) 1 (AB y8)) 417 ⟨(h:Int), -1⟩)]).e),i6 ((Bc [(Ah false 415 ⟨(h:Int), -1⟩),(Ah true 416 ⟨(h:Int), -1⟩),(Ah (win ((BB c (h:Int):Nat):Int) 1 (AB y8)) 417 ⟨(h:Int), -1⟩)]).Ai.First),i6 ((Bc [(Ah false 415 ⟨(h:Int), -1⟩),(Ah true 416 ⟨(h:Int), -1⟩),(Ah (win ((BB c (h:Int):Nat):Int) 1 (AB y8)) 417 ⟨(h:Int), -1⟩)]).Ai.Second)]) ⟨rfl,rfl,rfl,Ae⟩ ?_
   intro w146 hw146
   have e0:MF c h=y8:=hy8.symm
   have eC:Dx c h=(Bc [(Ah false 415 ⟨(h:Int), -1⟩),(Ah true 416 ⟨(h:Int), -1⟩),(Ah (win ((BB c (h:Int):Nat):Int) 1 (AB y8)) 417 ⟨(h:Int), -1⟩)]):=by unfold Dx;simp only[e0];simp[h22,h127]
   exact⟨congrArg (fun t=>Ending.returned (Value.agg (Ar.arr t))) eC.symm,AO hw146⟩
  refine BP 0 3 [] [[o0,oF,o0]] [EF ((II c (h:Int):Nat):Int) 1] [(1,Ac h),(Bo z),(7,i6 (AB y8)),(E5 h c),(EX h),(45,.bool false),(46,Ac h)] rfl ⟨ef,Ae⟩ ?_
  refine Bf 67 #[(Ac h)] (some 47) (.agg #[(Ac h),i6 (-1)]) (fun w147 hw147=>DR w147 (h:Int)) (fun n148 (hn149:n125≤n148) => ?_)
  refine Dc [1,4,7,9,43,45,47] [(1,Ac h),(Bo z),(7,i6 (AB y8)),(E5 h c),(EX h),(45,.bool false),(NK h)] ?_
  refine Bf 41 #[.bool false,i6 416,.agg #[(Ac h),i6 (-1)]] (some 48) (.agg (Ar.arr (Ah false 416 ⟨(h:Int), -1⟩))) (fun w150 hw150=>Bz w150 (hL.ext (hw150.ext rfl)) false 416 (h:Int) (-1)) (fun n151 (hn152:n148≤n151) => ?_)
  refine BP 0 2 [] [[o0,o0]] [] [(1,Ac h),(Bo z),(EX h),(JW h),(NM h c),(50,i6 (AB y8))] rfl Ae ?_
  refine Bf 42 #[i6 ((BB c (h:Int):Nat):Int),i6 1,i6 (AB y8)] (some 51) (.bool (win ((BB c (h:Int):Nat):Int) 1 (AB y8))) (fun w153 hw153=>Cj w153 ((BB c (h:Int):Nat):Int) 1 (AB y8)) (fun n154 (hn155:n151≤n154) => ?_)
  refine BP 0 1 [] [[o0]] [] [(Bo z),(EX h),(JW h),(I5 y8 h c),(52,Ac h)] rfl Ae ?_
  refine Bf 67 #[(Ac h)] (some 53) (.agg #[(Ac h),i6 (-1)]) (fun w156 hw156=>DR w156 (h:Int)) (fun n157 (hn158:n154≤n157) => ?_)
  refine Dc [4,43,48,51,53] [(Bo z),(EX h),(JW h),(I5 y8 h c),(NL h)] ?_
  refine Bf 41 #[.bool (win ((BB c (h:Int):Nat):Int) 1 (AB y8)),i6 417,.agg #[(Ac h),i6 (-1)]] (some 54) (.agg (Ar.arr (Ah (win ((BB c (h:Int):Nat):Int) 1 (AB y8)) 417 ⟨(h:Int), -1⟩))) (fun w159 hw159=>Bz w159 (hL.ext (hw159.ext rfl)) (win ((BB c (h:Int):Nat):Int) 1 (AB y8)) 417 (h:Int) (-1)) (fun n160 (hn161:n157≤n160) => ?_)
  refine EY 0 1 [] [[o0]] [] [(Bo z),(55,.slice (some ⟨n160,0,none⟩) 3 3)] ⟨w,n160+1,[(Ak w),(FY c z),(Jb z),(Gz y8 z),(qt5j_5 y8 h c n160)]⟩ rfl Ae ?_
  refine Bf 65 #[.slice (some ⟨n160,0,none⟩) 3 3] (some 56) (.agg (Ar.arr (Bc [(Ah false 415 ⟨(h:Int), -1⟩),(Ah false 416 ⟨(h:Int), -1⟩),(Ah (win ((BB c (h:Int):Nat):Int) 1 (AB y8)) 417 ⟨(h:Int), -1⟩)]))) (fun w162 hw162=>DZ w162 (hL.ext (hw162.ext rfl)) ⟨some ⟨n160,0,none⟩,3,[(Ah false 415 ⟨(h:Int), -1⟩),(Ah false 416 ⟨(h:Int), -1⟩),(Ah (win ((BB c (h:Int):Nat):Int) 1 (AB y8)) 417 ⟨(h:Int), -1⟩)]⟩ (EP hw162 (i:=4) [(Ah false 415 ⟨(h:Int), -1⟩),(Ah false 416 ⟨(h:Int), -1⟩),(Ah (win ((BB c (h:Int):Nat):Int) 1 (AB y8)) 417 ⟨(h:Int), -1⟩)]) (show 3≤1000 by decide)) (fun n163 (hn164:n160+1≤n163) => ?_)
  refine EY 3 0 [] [[(an 3 2)]] [Qb (z+1),Qb (z+1),Qb (z+1)] [(Bo z)] ⟨w,n163,[(Ak w),(FY c z),(Yz y8 h c z),(Gz y8 z),(qt5j_5 y8 h c n160)]⟩ rfl ⟨rfl,rfl,rfl,Ae⟩ ?_
  refine AA [.at 2,.at 2,.at 2] [Qb (z+1),Qb (z+1),Qb (z+1)] (.agg #[i6 ((Bc [(Ah false 415 ⟨(h:Int), -1⟩),(Ah false 416 ⟨(h:Int), -1⟩),(Ah (win ((BB c (h:Int):Nat):Int) 1 (AB y8)) 417 ⟨(h:Int), -1⟩)]).e),i6 ((Bc [(Ah false 415 ⟨(h:Int), -1⟩),(Ah false 416 ⟨(h:Int), -1⟩),(Ah (win ((BB c (h:Int):Nat):Int) 1 (AB y8)) 417 ⟨(h:Int), -1⟩)]).Ai.First),i6 ((Bc [(Ah false 415 ⟨(h:Int), -1⟩),(Ah false 416 ⟨(h:Int), -1⟩),(Ah (win ((BB c (h:Int):Nat):Int) 1 (AB y8)) 417 ⟨(h:Int), -1⟩)]).Ai.Second)]) ⟨rfl,rfl,rfl,Ae⟩ ?_
  intro w165 hw165
  have e0:MF c h=y8:=hy8.symm
  have eC:Dx c h=(Bc [(Ah false 415 ⟨(h:Int), -1⟩),(Ah false 416 ⟨(h:Int), -1⟩),(Ah (win ((BB c (h:Int):Nat):Int) 1 (AB y8)) 417 ⟨(h:Int), -1⟩)]):=by unfold Dx;simp only[e0];simp[h22,h127]
  exact⟨congrArg (fun t=>Ending.returned (Value.agg (Ar.arr t))) eC.symm,AO hw165⟩
 refine Az 3 0 [] [[o0,(a1 3),oF,o0,o0]] [Qb (z+2),EF y8.Dn 0] [(1,Ac h),(2,pt z),(Bo z),(H7 z),(6,.bool false),(7,i6 4)] rfl ⟨rfl,ef,Ae⟩ ?_
 refine WI (fun a w'=>∃ (n166:Nat),z+3≤n166∧St 57 [(1,Ac h),(2,pt z),(Bo z),(H7 z),(6,.bool (Eu y8)),(7,i6 (AB y8))] [] ⟨w,n166,[(Ak w),(FY c z),(Jb z),(Gz y8 z)]⟩ a w') ?_ ?_
 ·refine Ce ?_
  by_cases h168:(y8.Kind:Int)=2
  ·refine Az 5 2 [1] [[o0,(a1 3),oT],[o0,(a1 3)]] [Qb (z+2),ET y8.Kind 2,Qb (z+2)] [(1,Ac h),(2,pt z),(Bo z),(H7 z),(22,i6 y8.Dn)] rfl ⟨rfl,et,rfl,Ae⟩ ?_
   refine Bf 42 #[i6 y8.Dn,i6 1,i6 8] (some 23) (.bool (win y8.Dn 1 8)) (fun w169 hw169=>Cj w169 y8.Dn 1 8) (fun n170 (hn171:z+3≤n170) => ?_)
   refine BP 1 0 [] [[o0,o0]] [] [(1,Ac h),(2,pt z),(Bo z),(H7 z),(6,.bool (win y8.Dn 1 8)),(7,i6 1)] rfl Ae ?_
   have e6:Eu y8=win y8.Dn 1 8:=(if_pos h168).trans (by first | rfl | exact decide_eq_true (by assumption) | exact decide_eq_false (by assumption))
   have e7:AB y8=1:=if_pos h168
   refine BK [1,2,4,5,6,7] [(1,Ac h),(2,pt z),(Bo z),(H7 z),(6,.bool (win y8.Dn 1 8)),(7,i6 1)] ?_
   refine BD (fun a w' hs=>⟨n170,by omega,(by(try dsimp only[Jb,Gz,FY,Bo,H7]at hs ⊢);rw[e6,e7];exact hs)⟩)
  refine Az 5 0 [0] [[o0,(a1 3),oF]] [Qb (z+2),EF y8.Kind 2] [(1,Ac h),(2,pt z),(Bo z),(H7 z),(6,.bool false),(7,i6 4),(20,.bool false)] rfl ⟨rfl,ef,Ae⟩ ?_
  have e6:Eu y8=false:=(if_neg h168).trans (by first | rfl | exact decide_eq_true (by assumption) | exact decide_eq_false (by assumption))
  have e7:AB y8=4:=if_neg h168
  refine BK [1,2,4,5,6,7] [(1,Ac h),(2,pt z),(Bo z),(H7 z),(6,.bool false),(7,i6 4)] ?_
  refine BD (fun a w' hs=>⟨(z+3),by omega,(by(try dsimp only[Jb,Gz,FY,Bo,H7]at hs ⊢);rw[e6,e7];exact hs)⟩)
 rintro a w' ⟨n166,hn167,hs⟩
 refine(?_:G Tryd.prog 57 [(1,Ac h),(2,pt z),(Bo z),(H7 z),(6,.bool (Eu y8)),(7,i6 (AB y8))] [] ⟨w,n166,[(Ak w),(FY c z),(Jb z),(Gz y8 z)]⟩ _ _ _) a w' hs
 clear hs a w'
 refine Az 2 2 [] [[(an 7 1),o0]] [Qb z,Qb z,Qb z,Qb z,Qb z,Qb z,Qb z] [(1,Ac h),(Bo z),(H7 z),(6,.bool (Eu y8)),(7,i6 (AB y8)),(25,.agg (Aj.arr c)),(26,Ac h)] rfl ⟨rfl,rfl,rfl,rfl,rfl,rfl,rfl,Ae⟩ ?_
 refine Bf 71 #[.agg (Aj.arr c),Ac h] (some 27) (.tuple #[i6 ((II c (h:Int):Nat):Int),i6 ((BB c (h:Int):Nat):Int)]) (fun w172 hw172=>RJ w172 c (hc.ext (hw172.ext rfl) (fun _ h=>h)) (h:Int) hm hq) (fun n173 (hn174:n166≤n173) => ?_)
 refine BP 4 2 [] [[o0,o0,o0,o0,o0],[o0,(a1 3)]] [Qb (z+2)] [(1,Ac h),(Bo z),(H7 z),(6,.bool (Eu y8)),(7,i6 (AB y8)),(Ia h c),(E5 h c),(31,i6 y8.Kind)] rfl ⟨rfl,Ae⟩ ?_
 refine Bf 42 #[i6 y8.Kind,i6 1,i6 2] (some 32) (.bool (win y8.Kind 1 2)) (fun w175 hw175=>Cj w175 y8.Kind 1 2) (fun n176 (hn177:n173≤n176) => ?_)
 refine Dc [1,4,5,6,7,8,9,32] [(1,Ac h),(Bo z),(H7 z),(6,.bool (Eu y8)),(7,i6 (AB y8)),(Ia h c),(E5 h c),(32,.bool (win y8.Kind 1 2))] ?_
 by_cases h178:(win y8.Kind 1 2)=true
 ·have hd179:=EE h178
  refine BP 0 3 [] [[(ov (.bool true)),o0,(a1 3)]] [Value.bool (win y8.Kind 1 2)=Value.bool true,Qb (z+2)] [(1,Ac h),(Bo z),(6,.bool (Eu y8)),(7,i6 (AB y8)),(Ia h c),(E5 h c),(33,.bool true),(35,i6 y8.Words)] rfl ⟨(congrArg Value.bool h178),rfl,Ae⟩ ?_
  refine Bf 42 #[i6 y8.Words,i6 1,i6 16] (some 36) (.bool (win y8.Words 1 16)) (fun w180 hw180=>Cj w180 y8.Words 1 16) (fun n181 (hn182:n176≤n181) => ?_)
  refine Dc [1,4,6,7,8,9,33,36] [(1,Ac h),(Bo z),(6,.bool (Eu y8)),(7,i6 (AB y8)),(Ia h c),(E5 h c),(33,.bool true),(36,.bool (win y8.Words 1 16))] ?_
  by_cases h183:(win y8.Words 1 16)=true
  ·have hd184:=EE h183
   refine BP 0 5 [] [[o0,(ov (.bool true)),o0,o0,o0]] [Value.bool (win y8.Words 1 16)=Value.bool true] [(1,Ac h),(Bo z),(7,i6 (AB y8)),(Ia h c),(E5 h c),(40,.bool (Eu y8)),(41,Ac h)] rfl ⟨(congrArg Value.bool h183),Ae⟩ ?_
   refine Bf 67 #[(Ac h)] (some 42) (.agg #[(Ac h),i6 (-1)]) (fun w185 hw185=>DR w185 (h:Int)) (fun n186 (hn187:n181≤n186) => ?_)
   refine Dc [1,4,7,8,9,40,42] [(1,Ac h),(Bo z),(7,i6 (AB y8)),(Ia h c),(E5 h c),(40,.bool (Eu y8)),(U4 h)] ?_
   refine Bf 41 #[.bool (Eu y8),i6 415,.agg #[(Ac h),i6 (-1)]] (some 43) (.agg (Ar.arr (Ah (Eu y8) 415 ⟨(h:Int), -1⟩))) (fun w188 hw188=>Bz w188 (hL.ext (hw188.ext rfl)) (Eu y8) 415 (h:Int) (-1)) (fun n189 (hn190:n186≤n189) => ?_)
   refine Dc [1,4,7,8,9,43] [(1,Ac h),(Bo z),(7,i6 (AB y8)),(Ia h c),(E5 h c),(IX y8 h)] ?_
   by_cases h191:(((II c (h:Int):Nat):Int):Int)=1
   ·refine BP 0 3 [] [[o0,oT,o0]] [ET ((II c (h:Int):Nat):Int) 1] [(1,Ac h),(Bo z),(7,i6 (AB y8)),(E5 h c),(IX y8 h),(45,.bool true),(46,Ac h)] rfl ⟨et,Ae⟩ ?_
    refine Bf 67 #[(Ac h)] (some 47) (.agg #[(Ac h),i6 (-1)]) (fun w192 hw192=>DR w192 (h:Int)) (fun n193 (hn194:n189≤n193) => ?_)
    refine Dc [1,4,7,9,43,45,47] [(1,Ac h),(Bo z),(7,i6 (AB y8)),(E5 h c),(IX y8 h),(45,.bool true),(NK h)] ?_
    refine Bf 41 #[.bool true,i6 416,.agg #[(Ac h),i6 (-1)]] (some 48) (.agg (Ar.arr (Ah true 416 ⟨(h:Int), -1⟩))) (fun w195 hw195=>Bz w195 (hL.ext (hw195.ext rfl)) true 416 (h:Int) (-1)) (fun n196 (hn197:n193≤n196) => ?_)
    refine BP 0 2 [] [[o0,o0]] [] [(1,Ac h),(Bo z),(IX y8 h),(JU h),(NM h c),(50,i6 (AB y8))] rfl Ae ?_
    refine Bf 42 #[i6 ((BB c (h:Int):Nat):Int),i6 1,i6 (AB y8)] (some 51) (.bool (win ((BB c (h:Int):Nat):Int) 1 (AB y8))) (fun w198 hw198=>Cj w198 ((BB c (h:Int):Nat):Int) 1 (AB y8)) (fun n199 (hn200:n196≤n199) => ?_)
    refine BP 0 1 [] [[o0]] [] [(Bo z),(IX y8 h),(JU h),(I5 y8 h c),(52,Ac h)] rfl Ae ?_
    refine Bf 67 #[(Ac h)] (some 53) (.agg #[(Ac h),i6 (-1)]) (fun w201 hw201=>DR w201 (h:Int)) (fun n202 (hn203:n199≤n202) => ?_)
    refine Dc [4,43,48,51,53] [(Bo z),(IX y8 h),(JU h),(I5 y8 h c),(NL h)] ?_
    refine Bf 41 #[.bool (win ((BB c (h:Int):Nat):Int) 1 (AB y8)),i6 417,.agg #[(Ac h),i6 (-1)]] (some 54) (.agg (Ar.arr (Ah (win ((BB c (h:Int):Nat):Int) 1 (AB y8)) 417 ⟨(h:Int), -1⟩))) (fun w204 hw204=>Bz w204 (hL.ext (hw204.ext rfl)) (win ((BB c (h:Int):Nat):Int) 1 (AB y8)) 417 (h:Int) (-1)) (fun n205 (hn206:n202≤n205) => ?_)
    refine EY 0 1 [] [[o0]] [] [(Bo z),(55,.slice (some ⟨n205,0,none⟩) 3 3)] ⟨w,n205+1,[(Ak w),(FY c z),(Jb z),(Gz y8 z),(qt5j_2 y8 h c n205)]⟩ rfl Ae ?_
    refine Bf 65 #[.slice (some ⟨n205,0,none⟩) 3 3] (some 56) (.agg (Ar.arr (Bc [(Ah (Eu y8) 415 ⟨(h:Int), -1⟩),(Ah true 416 ⟨(h:Int), -1⟩),(Ah (win ((BB c (h:Int):Nat):Int) 1 (AB y8)) 417 ⟨(h:Int), -1⟩)]))) (fun w207 hw207=>DZ w207 (hL.ext (hw207.ext rfl)) ⟨some ⟨n205,0,none⟩,3,[(Ah (Eu y8) 415 ⟨(h:Int), -1⟩),(Ah true 416 ⟨(h:Int), -1⟩),(Ah (win ((BB c (h:Int):Nat):Int) 1 (AB y8)) 417 ⟨(h:Int), -1⟩)]⟩ (EP hw207 (i:=4) [(Ah (Eu y8) 415 ⟨(h:Int), -1⟩),(Ah true 416 ⟨(h:Int), -1⟩),(Ah (win ((BB c (h:Int):Nat):Int) 1 (AB y8)) 417 ⟨(h:Int), -1⟩)]) (show 3≤1000 by decide)) (fun n208 (hn209:n205+1≤n208) => ?_)
    refine EY 3 0 [] [[(an 3 2)]] [Qb (z+1),Qb (z+1),Qb (z+1)] [(Bo z)] ⟨w,n208,[(Ak w),(FY c z),(Zd7 y8 h c z),(Gz y8 z),(qt5j_2 y8 h c n205)]⟩ rfl ⟨rfl,rfl,rfl,Ae⟩ ?_
    refine AA [.at 2,.at 2,.at 2] [Qb (z+1),Qb (z+1),Qb (z+1)] (.agg #[i6 ((Bc [(Ah (Eu y8) 415 ⟨(h:Int), -1⟩),(Ah true 416 ⟨(h:Int), -1⟩),(Ah (win ((BB c (h:Int):Nat):Int) 1 (AB y8)) 417 ⟨(h:Int), -1⟩)]).e),i6 ((Bc [(Ah (Eu y8) 415 ⟨(h:Int), -1⟩),(Ah true 416 ⟨(h:Int), -1⟩),(Ah (win ((BB c (h:Int):Nat):Int) 1 (AB y8)) 417 ⟨(h:Int), -1⟩)]).Ai.First),i6 ((Bc [(Ah (Eu y8) 415 ⟨(h:Int), -1⟩),(Ah true 416 ⟨(h:Int), -1⟩),(Ah (win ((BB c (h:Int):Nat):Int) 1 (AB y8)) 417 ⟨(h:Int), -1⟩)]).Ai.Second)]) ⟨rfl,rfl,rfl,Ae⟩ ?_
    intro w210 hw210
    have e0:MF c h=y8:=hy8.symm
    have eC:Dx c h=(Bc [(Ah (Eu y8) 415 ⟨(h:Int), -1⟩),(Ah true 416 ⟨(h:Int), -1⟩),(Ah (win ((BB c (h:Int):Nat):Int) 1 (AB y8)) 417 ⟨(h:Int), -1⟩)]):=by unfold Dx;simp only[e0];simp[h178,h183,h191]
    exact⟨congrArg (fun t=>Ending.returned (Value.agg (Ar.arr t))) eC.symm,AO hw210⟩
   refine BP 0 3 [] [[o0,oF,o0]] [EF ((II c (h:Int):Nat):Int) 1] [(1,Ac h),(Bo z),(7,i6 (AB y8)),(E5 h c),(IX y8 h),(45,.bool false),(46,Ac h)] rfl ⟨ef,Ae⟩ ?_
   refine Bf 67 #[(Ac h)] (some 47) (.agg #[(Ac h),i6 (-1)]) (fun w211 hw211=>DR w211 (h:Int)) (fun n212 (hn213:n189≤n212) => ?_)
   refine Dc [1,4,7,9,43,45,47] [(1,Ac h),(Bo z),(7,i6 (AB y8)),(E5 h c),(IX y8 h),(45,.bool false),(NK h)] ?_
   refine Bf 41 #[.bool false,i6 416,.agg #[(Ac h),i6 (-1)]] (some 48) (.agg (Ar.arr (Ah false 416 ⟨(h:Int), -1⟩))) (fun w214 hw214=>Bz w214 (hL.ext (hw214.ext rfl)) false 416 (h:Int) (-1)) (fun n215 (hn216:n212≤n215) => ?_)
   refine BP 0 2 [] [[o0,o0]] [] [(1,Ac h),(Bo z),(IX y8 h),(JW h),(NM h c),(50,i6 (AB y8))] rfl Ae ?_
   refine Bf 42 #[i6 ((BB c (h:Int):Nat):Int),i6 1,i6 (AB y8)] (some 51) (.bool (win ((BB c (h:Int):Nat):Int) 1 (AB y8))) (fun w217 hw217=>Cj w217 ((BB c (h:Int):Nat):Int) 1 (AB y8)) (fun n218 (hn219:n215≤n218) => ?_)
   refine BP 0 1 [] [[o0]] [] [(Bo z),(IX y8 h),(JW h),(I5 y8 h c),(52,Ac h)] rfl Ae ?_
   refine Bf 67 #[(Ac h)] (some 53) (.agg #[(Ac h),i6 (-1)]) (fun w220 hw220=>DR w220 (h:Int)) (fun n221 (hn222:n218≤n221) => ?_)
   refine Dc [4,43,48,51,53] [(Bo z),(IX y8 h),(JW h),(I5 y8 h c),(NL h)] ?_
   refine Bf 41 #[.bool (win ((BB c (h:Int):Nat):Int) 1 (AB y8)),i6 417,.agg #[(Ac h),i6 (-1)]] (some 54) (.agg (Ar.arr (Ah (win ((BB c (h:Int):Nat):Int) 1 (AB y8)) 417 ⟨(h:Int), -1⟩))) (fun w223 hw223=>Bz w223 (hL.ext (hw223.ext rfl)) (win ((BB c (h:Int):Nat):Int) 1 (AB y8)) 417 (h:Int) (-1)) (fun n224 (hn225:n221≤n224) => ?_)
   refine EY 0 1 [] [[o0]] [] [(Bo z),(55,.slice (some ⟨n224,0,none⟩) 3 3)] ⟨w,n224+1,[(Ak w),(FY c z),(Jb z),(Gz y8 z),(qt5j_0 n224 y8 h c)]⟩ rfl Ae ?_
   refine Bf 65 #[.slice (some ⟨n224,0,none⟩) 3 3] (some 56) (.agg (Ar.arr (Bc [(Ah (Eu y8) 415 ⟨(h:Int), -1⟩),(Ah false 416 ⟨(h:Int), -1⟩),(Ah (win ((BB c (h:Int):Nat):Int) 1 (AB y8)) 417 ⟨(h:Int), -1⟩)]))) (fun w226 hw226=>DZ w226 (hL.ext (hw226.ext rfl)) ⟨some ⟨n224,0,none⟩,3,[(Ah (Eu y8) 415 ⟨(h:Int), -1⟩),(Ah false 416 ⟨(h:Int), -1⟩),(Ah (win ((BB c (h:Int):Nat):Int) 1 (AB y8)) 417 ⟨(h:Int), -1⟩)]⟩ (EP hw226 (i:=4) [(Ah (Eu y8) 415 ⟨(h:Int), -1⟩),(Ah false 416 ⟨(h:Int), -1⟩),(Ah (win ((BB c (h:Int):Nat):Int) 1 (AB y8)) 417 ⟨(h:Int), -1⟩)]) (show 3≤1000 by decide)) (fun n227 (hn228:n224+1≤n227) => ?_)
   refine EY 3 0 [] [[(an 3 2)]] [Qb (z+1),Qb (z+1),Qb (z+1)] [(Bo z)] ⟨w,n227,[(Ak w),(FY c z),(Zd9 y8 h c z),(Gz y8 z),(qt5j_0 n224 y8 h c)]⟩ rfl ⟨rfl,rfl,rfl,Ae⟩ ?_
   refine AA [.at 2,.at 2,.at 2] [Qb (z+1),Qb (z+1),Qb (z+1)] (.agg #[i6 ((Bc [(Ah (Eu y8) 415 ⟨(h:Int), -1⟩),(Ah false 416 ⟨(h:Int), -1⟩),(Ah (win ((BB c (h:Int):Nat):Int) 1 (AB y8)) 417 ⟨(h:Int), -1⟩)]).e),i6 ((Bc [(Ah (Eu y8) 415 ⟨(h:Int), -1⟩),(Ah false 416 ⟨(h:Int), -1⟩),(Ah (win ((BB c (h:Int):Nat):Int) 1 (AB y8)) 417 ⟨(h:Int), -1⟩)]).Ai.First),i6 ((Bc [(Ah (Eu y8) 415 ⟨(h:Int), -1⟩),(Ah false 416 ⟨(h:Int), -1⟩),(Ah (win ((BB c (h:Int):Nat):Int) 1 (AB y8)) 417 ⟨(h:Int), -1⟩)]).Ai.Second)]) ⟨rfl,rfl,rfl,Ae⟩ ?_
   intro w229 hw229
   have e0:MF c h=y8:=hy8.symm
   have eC:Dx c h=(Bc [(Ah (Eu y8) 415 ⟨(h:Int), -1⟩),(Ah false 416 ⟨(h:Int), -1⟩),(Ah (win ((BB c (h:Int):Nat):Int) 1 (AB y8)) 417 ⟨(h:Int), -1⟩)]):=by unfold Dx;simp only[e0];simp[h178,h183,h191]
   exact⟨congrArg (fun t=>Ending.returned (Value.agg (Ar.arr t))) eC.symm,AO hw229⟩
  have hd230:=FQ h183
  refine BP 0 5 [] [[o0,(ov (.bool false)),o0,o0]] [Value.bool (win y8.Words 1 16)=Value.bool false] [(1,Ac h),(Bo z),(7,i6 (AB y8)),(Ia h c),(E5 h c),(40,.bool false),(41,Ac h)] rfl ⟨(congrArg Value.bool (Bool.eq_false_iff.2 h183)),Ae⟩ ?_
  refine Bf 67 #[(Ac h)] (some 42) (.agg #[(Ac h),i6 (-1)]) (fun w231 hw231=>DR w231 (h:Int)) (fun n232 (hn233:n181≤n232) => ?_)
  refine Dc [1,4,7,8,9,40,42] [(1,Ac h),(Bo z),(7,i6 (AB y8)),(Ia h c),(E5 h c),(40,.bool false),(U4 h)] ?_
  refine Bf 41 #[.bool false,i6 415,.agg #[(Ac h),i6 (-1)]] (some 43) (.agg (Ar.arr (Ah false 415 ⟨(h:Int), -1⟩))) (fun w234 hw234=>Bz w234 (hL.ext (hw234.ext rfl)) false 415 (h:Int) (-1)) (fun n235 (hn236:n232≤n235) => ?_)
  refine Dc [1,4,7,8,9,43] [(1,Ac h),(Bo z),(7,i6 (AB y8)),(Ia h c),(E5 h c),(EX h)] ?_
  by_cases h237:(((II c (h:Int):Nat):Int):Int)=1
  ·refine BP 0 3 [] [[o0,oT,o0]] [ET ((II c (h:Int):Nat):Int) 1] [(1,Ac h),(Bo z),(7,i6 (AB y8)),(E5 h c),(EX h),(45,.bool true),(46,Ac h)] rfl ⟨et,Ae⟩ ?_
   refine Bf 67 #[(Ac h)] (some 47) (.agg #[(Ac h),i6 (-1)]) (fun w238 hw238=>DR w238 (h:Int)) (fun n239 (hn240:n235≤n239) => ?_)
   refine Dc [1,4,7,9,43,45,47] [(1,Ac h),(Bo z),(7,i6 (AB y8)),(E5 h c),(EX h),(45,.bool true),(NK h)] ?_
   refine Bf 41 #[.bool true,i6 416,.agg #[(Ac h),i6 (-1)]] (some 48) (.agg (Ar.arr (Ah true 416 ⟨(h:Int), -1⟩))) (fun w241 hw241=>Bz w241 (hL.ext (hw241.ext rfl)) true 416 (h:Int) (-1)) (fun n242 (hn243:n239≤n242) => ?_)
   refine BP 0 2 [] [[o0,o0]] [] [(1,Ac h),(Bo z),(EX h),(JU h),(NM h c),(50,i6 (AB y8))] rfl Ae ?_
   refine Bf 42 #[i6 ((BB c (h:Int):Nat):Int),i6 1,i6 (AB y8)] (some 51) (.bool (win ((BB c (h:Int):Nat):Int) 1 (AB y8))) (fun w244 hw244=>Cj w244 ((BB c (h:Int):Nat):Int) 1 (AB y8)) (fun n245 (hn246:n242≤n245) => ?_)
   refine BP 0 1 [] [[o0]] [] [(Bo z),(EX h),(JU h),(I5 y8 h c),(52,Ac h)] rfl Ae ?_
   refine Bf 67 #[(Ac h)] (some 53) (.agg #[(Ac h),i6 (-1)]) (fun w247 hw247=>DR w247 (h:Int)) (fun n248 (hn249:n245≤n248) => ?_)
   refine Dc [4,43,48,51,53] [(Bo z),(EX h),(JU h),(I5 y8 h c),(NL h)] ?_
   refine Bf 41 #[.bool (win ((BB c (h:Int):Nat):Int) 1 (AB y8)),i6 417,.agg #[(Ac h),i6 (-1)]] (some 54) (.agg (Ar.arr (Ah (win ((BB c (h:Int):Nat):Int) 1 (AB y8)) 417 ⟨(h:Int), -1⟩))) (fun w250 hw250=>Bz w250 (hL.ext (hw250.ext rfl)) (win ((BB c (h:Int):Nat):Int) 1 (AB y8)) 417 (h:Int) (-1)) (fun n251 (hn252:n248≤n251) => ?_)
   refine EY 0 1 [] [[o0]] [] [(Bo z),(55,.slice (some ⟨n251,0,none⟩) 3 3)] ⟨w,n251+1,[(Ak w),(FY c z),(Jb z),(Gz y8 z),(qt5j_9 y8 h c n251)]⟩ rfl Ae ?_
   refine Bf 65 #[.slice (some ⟨n251,0,none⟩) 3 3] (some 56) (.agg (Ar.arr (Bc [(Ah false 415 ⟨(h:Int), -1⟩),(Ah true 416 ⟨(h:Int), -1⟩),(Ah (win ((BB c (h:Int):Nat):Int) 1 (AB y8)) 417 ⟨(h:Int), -1⟩)]))) (fun w253 hw253=>DZ w253 (hL.ext (hw253.ext rfl)) ⟨some ⟨n251,0,none⟩,3,[(Ah false 415 ⟨(h:Int), -1⟩),(Ah true 416 ⟨(h:Int), -1⟩),(Ah (win ((BB c (h:Int):Nat):Int) 1 (AB y8)) 417 ⟨(h:Int), -1⟩)]⟩ (EP hw253 (i:=4) [(Ah false 415 ⟨(h:Int), -1⟩),(Ah true 416 ⟨(h:Int), -1⟩),(Ah (win ((BB c (h:Int):Nat):Int) 1 (AB y8)) 417 ⟨(h:Int), -1⟩)]) (show 3≤1000 by decide)) (fun n254 (hn255:n251+1≤n254) => ?_)
   refine EY 3 0 [] [[(an 3 2)]] [Qb (z+1),Qb (z+1),Qb (z+1)] [(Bo z)] ⟨w,n254,[(Ak w),(FY c z),(YG y8 h c z),(Gz y8 z),(qt5j_9 y8 h c n251)]⟩ rfl ⟨rfl,rfl,rfl,Ae⟩ ?_
   refine AA [.at 2,.at 2,.at 2] [Qb (z+1),Qb (z+1),Qb (z+1)] (.agg #[i6 ((Bc [(Ah false 415 ⟨(h:Int), -1⟩),(Ah true 416 ⟨(h:Int), -1⟩),(Ah (win ((BB c (h:Int):Nat):Int) 1 (AB y8)) 417 ⟨(h:Int), -1⟩)]).e),i6 ((Bc [(Ah false 415 ⟨(h:Int), -1⟩),(Ah true 416 ⟨(h:Int), -1⟩),(Ah (win ((BB c (h:Int):Nat):Int) 1 (AB y8)) 417 ⟨(h:Int), -1⟩)]).Ai.First),i6 ((Bc [(Ah false 415 ⟨(h:Int), -1⟩),(Ah true 416 ⟨(h:Int), -1⟩),(Ah (win ((BB c (h:Int):Nat):Int) 1 (AB y8)) 417 ⟨(h:Int), -1⟩)]).Ai.Second)]) ⟨rfl,rfl,rfl,Ae⟩ ?_
   intro w256 hw256
   have e0:MF c h=y8:=hy8.symm
   have eC:Dx c h=(Bc [(Ah false 415 ⟨(h:Int), -1⟩),(Ah true 416 ⟨(h:Int), -1⟩),(Ah (win ((BB c (h:Int):Nat):Int) 1 (AB y8)) 417 ⟨(h:Int), -1⟩)]):=by unfold Dx;simp only[e0];simp[h178,h183,h237]
   exact⟨congrArg (fun t=>Ending.returned (Value.agg (Ar.arr t))) eC.symm,AO hw256⟩
  refine BP 0 3 [] [[o0,oF,o0]] [EF ((II c (h:Int):Nat):Int) 1] [(1,Ac h),(Bo z),(7,i6 (AB y8)),(E5 h c),(EX h),(45,.bool false),(46,Ac h)] rfl ⟨ef,Ae⟩ ?_
  refine Bf 67 #[(Ac h)] (some 47) (.agg #[(Ac h),i6 (-1)]) (fun w257 hw257=>DR w257 (h:Int)) (fun n258 (hn259:n235≤n258) => ?_)
  refine Dc [1,4,7,9,43,45,47] [(1,Ac h),(Bo z),(7,i6 (AB y8)),(E5 h c),(EX h),(45,.bool false),(NK h)] ?_
  refine Bf 41 #[.bool false,i6 416,.agg #[(Ac h),i6 (-1)]] (some 48) (.agg (Ar.arr (Ah false 416 ⟨(h:Int), -1⟩))) (fun w260 hw260=>Bz w260 (hL.ext (hw260.ext rfl)) false 416 (h:Int) (-1)) (fun n261 (hn262:n258≤n261) => ?_)
  refine BP 0 2 [] [[o0,o0]] [] [(1,Ac h),(Bo z),(EX h),(JW h),(NM h c),(50,i6 (AB y8))] rfl Ae ?_
  refine Bf 42 #[i6 ((BB c (h:Int):Nat):Int),i6 1,i6 (AB y8)] (some 51) (.bool (win ((BB c (h:Int):Nat):Int) 1 (AB y8))) (fun w263 hw263=>Cj w263 ((BB c (h:Int):Nat):Int) 1 (AB y8)) (fun n264 (hn265:n261≤n264) => ?_)
  refine BP 0 1 [] [[o0]] [] [(Bo z),(EX h),(JW h),(I5 y8 h c),(52,Ac h)] rfl Ae ?_
  refine Bf 67 #[(Ac h)] (some 53) (.agg #[(Ac h),i6 (-1)]) (fun w266 hw266=>DR w266 (h:Int)) (fun n267 (hn268:n264≤n267) => ?_)
  refine Dc [4,43,48,51,53] [(Bo z),(EX h),(JW h),(I5 y8 h c),(NL h)] ?_
  refine Bf 41 #[.bool (win ((BB c (h:Int):Nat):Int) 1 (AB y8)),i6 417,.agg #[(Ac h),i6 (-1)]] (some 54) (.agg (Ar.arr (Ah (win ((BB c (h:Int):Nat):Int) 1 (AB y8)) 417 ⟨(h:Int), -1⟩))) (fun w269 hw269=>Bz w269 (hL.ext (hw269.ext rfl)) (win ((BB c (h:Int):Nat):Int) 1 (AB y8)) 417 (h:Int) (-1)) (fun n270 (hn271:n267≤n270) => ?_)
  refine EY 0 1 [] [[o0]] [] [(Bo z),(55,.slice (some ⟨n270,0,none⟩) 3 3)] ⟨w,n270+1,[(Ak w),(FY c z),(Jb z),(Gz y8 z),(qt5j_6 y8 h c n270)]⟩ rfl Ae ?_
  refine Bf 65 #[.slice (some ⟨n270,0,none⟩) 3 3] (some 56) (.agg (Ar.arr (Bc [(Ah false 415 ⟨(h:Int), -1⟩),(Ah false 416 ⟨(h:Int), -1⟩),(Ah (win ((BB c (h:Int):Nat):Int) 1 (AB y8)) 417 ⟨(h:Int), -1⟩)]))) (fun w272 hw272=>DZ w272 (hL.ext (hw272.ext rfl)) ⟨some ⟨n270,0,none⟩,3,[(Ah false 415 ⟨(h:Int), -1⟩),(Ah false 416 ⟨(h:Int), -1⟩),(Ah (win ((BB c (h:Int):Nat):Int) 1 (AB y8)) 417 ⟨(h:Int), -1⟩)]⟩ (EP hw272 (i:=4) [(Ah false 415 ⟨(h:Int), -1⟩),(Ah false 416 ⟨(h:Int), -1⟩),(Ah (win ((BB c (h:Int):Nat):Int) 1 (AB y8)) 417 ⟨(h:Int), -1⟩)]) (show 3≤1000 by decide)) (fun n273 (hn274:n270+1≤n273) => ?_)
  refine EY 3 0 [] [[(an 3 2)]] [Qb (z+1),Qb (z+1),Qb (z+1)] [(Bo z)] ⟨w,n273,[(Ak w),(FY c z),(Yz y8 h c z),(Gz y8 z),(qt5j_6 y8 h c n270)]⟩ rfl ⟨rfl,rfl,rfl,Ae⟩ ?_
  refine AA [.at 2,.at 2,.at 2] [Qb (z+1),Qb (z+1),Qb (z+1)] (.agg #[i6 ((Bc [(Ah false 415 ⟨(h:Int), -1⟩),(Ah false 416 ⟨(h:Int), -1⟩),(Ah (win ((BB c (h:Int):Nat):Int) 1 (AB y8)) 417 ⟨(h:Int), -1⟩)]).e),i6 ((Bc [(Ah false 415 ⟨(h:Int), -1⟩),(Ah false 416 ⟨(h:Int), -1⟩),(Ah (win ((BB c (h:Int):Nat):Int) 1 (AB y8)) 417 ⟨(h:Int), -1⟩)]).Ai.First),i6 ((Bc [(Ah false 415 ⟨(h:Int), -1⟩),(Ah false 416 ⟨(h:Int), -1⟩),(Ah (win ((BB c (h:Int):Nat):Int) 1 (AB y8)) 417 ⟨(h:Int), -1⟩)]).Ai.Second)]) ⟨rfl,rfl,rfl,Ae⟩ ?_
  intro w275 hw275
  have e0:MF c h=y8:=hy8.symm
  have eC:Dx c h=(Bc [(Ah false 415 ⟨(h:Int), -1⟩),(Ah false 416 ⟨(h:Int), -1⟩),(Ah (win ((BB c (h:Int):Nat):Int) 1 (AB y8)) 417 ⟨(h:Int), -1⟩)]):=by unfold Dx;simp only[e0];simp[h178,h183,h237]
  exact⟨congrArg (fun t=>Ending.returned (Value.agg (Ar.arr t))) eC.symm,AO hw275⟩
 have hd276:=FQ h178
 refine BP 0 9 [] [[(ov (.bool false)),o0,o0,o0,o0]] [Value.bool (win y8.Kind 1 2)=Value.bool false] [(1,Ac h),(Bo z),(7,i6 (AB y8)),(Ia h c),(E5 h c),(40,.bool false),(41,Ac h)] rfl ⟨(congrArg Value.bool (Bool.eq_false_iff.2 h178)),Ae⟩ ?_
 refine Bf 67 #[(Ac h)] (some 42) (.agg #[(Ac h),i6 (-1)]) (fun w277 hw277=>DR w277 (h:Int)) (fun n278 (hn279:n176≤n278) => ?_)
 refine Dc [1,4,7,8,9,40,42] [(1,Ac h),(Bo z),(7,i6 (AB y8)),(Ia h c),(E5 h c),(40,.bool false),(U4 h)] ?_
 refine Bf 41 #[.bool false,i6 415,.agg #[(Ac h),i6 (-1)]] (some 43) (.agg (Ar.arr (Ah false 415 ⟨(h:Int), -1⟩))) (fun w280 hw280=>Bz w280 (hL.ext (hw280.ext rfl)) false 415 (h:Int) (-1)) (fun n281 (hn282:n278≤n281) => ?_)
 refine Dc [1,4,7,8,9,43] [(1,Ac h),(Bo z),(7,i6 (AB y8)),(Ia h c),(E5 h c),(EX h)] ?_
 by_cases h283:(((II c (h:Int):Nat):Int):Int)=1
 ·refine BP 0 3 [] [[o0,oT,o0]] [ET ((II c (h:Int):Nat):Int) 1] [(1,Ac h),(Bo z),(7,i6 (AB y8)),(E5 h c),(EX h),(45,.bool true),(46,Ac h)] rfl ⟨et,Ae⟩ ?_
  refine Bf 67 #[(Ac h)] (some 47) (.agg #[(Ac h),i6 (-1)]) (fun w284 hw284=>DR w284 (h:Int)) (fun n285 (hn286:n281≤n285) => ?_)
  refine Dc [1,4,7,9,43,45,47] [(1,Ac h),(Bo z),(7,i6 (AB y8)),(E5 h c),(EX h),(45,.bool true),(NK h)] ?_
  refine Bf 41 #[.bool true,i6 416,.agg #[(Ac h),i6 (-1)]] (some 48) (.agg (Ar.arr (Ah true 416 ⟨(h:Int), -1⟩))) (fun w287 hw287=>Bz w287 (hL.ext (hw287.ext rfl)) true 416 (h:Int) (-1)) (fun n288 (hn289:n285≤n288) => ?_)
  refine BP 0 2 [] [[o0,o0]] [] [(1,Ac h),(Bo z),(EX h),(JU h),(NM h c),(50,i6 (AB y8))] rfl Ae ?_
  refine Bf 42 #[i6 ((BB c (h:Int):Nat):Int),i6 1,i6 (AB y8)] (some 51) (.bool (win ((BB c (h:Int):Nat):Int) 1 (AB y8))) (fun w290 hw290=>Cj w290 ((BB c (h:Int):Nat):Int) 1 (AB y8)) (fun n291 (hn292:n288≤n291) => ?_)
  refine BP 0 1 [] [[o0]] [] [(Bo z),(EX h),(JU h),(I5 y8 h c),(52,Ac h)] rfl Ae ?_
  refine Bf 67 #[(Ac h)] (some 53) (.agg #[(Ac h),i6 (-1)]) (fun w293 hw293=>DR w293 (h:Int)) (fun n294 (hn295:n291≤n294) => ?_)
  refine Dc [4,43,48,51,53] [(Bo z),(EX h),(JU h),(I5 y8 h c),(NL h)] ?_
  refine Bf 41 #[.bool (win ((BB c (h:Int):Nat):Int) 1 (AB y8)),i6 417,.agg #[(Ac h),i6 (-1)]] (some 54) (.agg (Ar.arr (Ah (win ((BB c (h:Int):Nat):Int) 1 (AB y8)) 417 ⟨(h:Int), -1⟩))) (fun w296 hw296=>Bz w296 (hL.ext (hw296.ext rfl)) (win ((BB c (h:Int):Nat):Int) 1 (AB y8)) 417 (h:Int) (-1)) (fun n297 (hn298:n294≤n297) => ?_)
  refine EY 0 1 [] [[o0]] [] [(Bo z),(55,.slice (some ⟨n297,0,none⟩) 3 3)] ⟨w,n297+1,[(Ak w),(FY c z),(Jb z),(Gz y8 z),(Zd6 y8 h c n297)]⟩ rfl Ae ?_
  refine Bf 65 #[.slice (some ⟨n297,0,none⟩) 3 3] (some 56) (.agg (Ar.arr (Bc [(Ah false 415 ⟨(h:Int), -1⟩),(Ah true 416 ⟨(h:Int), -1⟩),(Ah (win ((BB c (h:Int):Nat):Int) 1 (AB y8)) 417 ⟨(h:Int), -1⟩)]))) (fun w299 hw299=>DZ w299 (hL.ext (hw299.ext rfl)) ⟨some ⟨n297,0,none⟩,3,[(Ah false 415 ⟨(h:Int), -1⟩),(Ah true 416 ⟨(h:Int), -1⟩),(Ah (win ((BB c (h:Int):Nat):Int) 1 (AB y8)) 417 ⟨(h:Int), -1⟩)]⟩ (EP hw299 (i:=4) [(Ah false 415 ⟨(h:Int), -1⟩),(Ah true 416 ⟨(h:Int), -1⟩),(Ah (win ((BB c (h:Int):Nat):Int) 1 (AB y8)) 417 ⟨(h:Int), -1⟩)]) (show 3≤1000 by decide)) (fun n300 (hn301:n297+1≤n300) => ?_)
  refine EY 3 0 [] [[(an 3 2)]] [Qb (z+1),Qb (z+1),Qb (z+1)] [(Bo z)] ⟨w,n300,[(Ak w),(FY c z),(YG y8 h c z),(Gz y8 z),(Zd6 y8 h c n297)]⟩ rfl ⟨rfl,rfl,rfl,Ae⟩ ?_
  refine AA [.at 2,.at 2,.at 2] [Qb (z+1),Qb (z+1),Qb (z+1)] (.agg #[i6 ((Bc [(Ah false 415 ⟨(h:Int), -1⟩),(Ah true 416 ⟨(h:Int), -1⟩),(Ah (win ((BB c (h:Int):Nat):Int) 1 (AB y8)) 417 ⟨(h:Int), -1⟩)]).e),i6 ((Bc [(Ah false 415 ⟨(h:Int), -1⟩),(Ah true 416 ⟨(h:Int), -1⟩),(Ah (win ((BB c (h:Int):Nat):Int) 1 (AB y8)) 417 ⟨(h:Int), -1⟩)]).Ai.First),i6 ((Bc [(Ah false 415 ⟨(h:Int), -1⟩),(Ah true 416 ⟨(h:Int), -1⟩),(Ah (win ((BB c (h:Int):Nat):Int) 1 (AB y8)) 417 ⟨(h:Int), -1⟩)]).Ai.Second)]) ⟨rfl,rfl,rfl,Ae⟩ ?_
  intro w302 hw302
  have e0:MF c h=y8:=hy8.symm
  have eC:Dx c h=(Bc [(Ah false 415 ⟨(h:Int), -1⟩),(Ah true 416 ⟨(h:Int), -1⟩),(Ah (win ((BB c (h:Int):Nat):Int) 1 (AB y8)) 417 ⟨(h:Int), -1⟩)]):=by unfold Dx;simp only[e0];simp[h178,h283]
  exact⟨congrArg (fun t=>Ending.returned (Value.agg (Ar.arr t))) eC.symm,AO hw302⟩
 refine BP 0 3 [] [[o0,oF,o0]] [EF ((II c (h:Int):Nat):Int) 1] [(1,Ac h),(Bo z),(7,i6 (AB y8)),(E5 h c),(EX h),(45,.bool false),(46,Ac h)] rfl ⟨ef,Ae⟩ ?_
 refine Bf 67 #[(Ac h)] (some 47) (.agg #[(Ac h),i6 (-1)]) (fun w303 hw303=>DR w303 (h:Int)) (fun n304 (hn305:n281≤n304) => ?_)
 refine Dc [1,4,7,9,43,45,47] [(1,Ac h),(Bo z),(7,i6 (AB y8)),(E5 h c),(EX h),(45,.bool false),(NK h)] ?_
 refine Bf 41 #[.bool false,i6 416,.agg #[(Ac h),i6 (-1)]] (some 48) (.agg (Ar.arr (Ah false 416 ⟨(h:Int), -1⟩))) (fun w306 hw306=>Bz w306 (hL.ext (hw306.ext rfl)) false 416 (h:Int) (-1)) (fun n307 (hn308:n304≤n307) => ?_)
 refine BP 0 2 [] [[o0,o0]] [] [(1,Ac h),(Bo z),(EX h),(JW h),(NM h c),(50,i6 (AB y8))] rfl Ae ?_
 refine Bf 42 #[i6 ((BB c (h:Int):Nat):Int),i6 1,i6 (AB y8)] (some 51) (.bool (win ((BB c (h:Int):Nat):Int) 1 (AB y8))) (fun w309 hw309=>Cj w309 ((BB c (h:Int):Nat):Int) 1 (AB y8)) (fun n310 (hn311:n307≤n310) => ?_)
 refine BP 0 1 [] [[o0]] [] [(Bo z),(EX h),(JW h),(I5 y8 h c),(52,Ac h)] rfl Ae ?_
 refine Bf 67 #[(Ac h)] (some 53) (.agg #[(Ac h),i6 (-1)]) (fun w312 hw312=>DR w312 (h:Int)) (fun n313 (hn314:n310≤n313) => ?_)
 refine Dc [4,43,48,51,53] [(Bo z),(EX h),(JW h),(I5 y8 h c),(NL h)] ?_
 refine Bf 41 #[.bool (win ((BB c (h:Int):Nat):Int) 1 (AB y8)),i6 417,.agg #[(Ac h),i6 (-1)]] (some 54) (.agg (Ar.arr (Ah (win ((BB c (h:Int):Nat):Int) 1 (AB y8)) 417 ⟨(h:Int), -1⟩))) (fun w315 hw315=>Bz w315 (hL.ext (hw315.ext rfl)) (win ((BB c (h:Int):Nat):Int) 1 (AB y8)) 417 (h:Int) (-1)) (fun n316 (hn317:n313≤n316) => ?_)
 refine EY 0 1 [] [[o0]] [] [(Bo z),(55,.slice (some ⟨n316,0,none⟩) 3 3)] ⟨w,n316+1,[(Ak w),(FY c z),(Jb z),(Gz y8 z),(qt5j_7 y8 h c n316)]⟩ rfl Ae ?_
 refine Bf 65 #[.slice (some ⟨n316,0,none⟩) 3 3] (some 56) (.agg (Ar.arr (Bc [(Ah false 415 ⟨(h:Int), -1⟩),(Ah false 416 ⟨(h:Int), -1⟩),(Ah (win ((BB c (h:Int):Nat):Int) 1 (AB y8)) 417 ⟨(h:Int), -1⟩)]))) (fun w318 hw318=>DZ w318 (hL.ext (hw318.ext rfl)) ⟨some ⟨n316,0,none⟩,3,[(Ah false 415 ⟨(h:Int), -1⟩),(Ah false 416 ⟨(h:Int), -1⟩),(Ah (win ((BB c (h:Int):Nat):Int) 1 (AB y8)) 417 ⟨(h:Int), -1⟩)]⟩ (EP hw318 (i:=4) [(Ah false 415 ⟨(h:Int), -1⟩),(Ah false 416 ⟨(h:Int), -1⟩),(Ah (win ((BB c (h:Int):Nat):Int) 1 (AB y8)) 417 ⟨(h:Int), -1⟩)]) (show 3≤1000 by decide)) (fun n319 (hn320:n316+1≤n319) => ?_)
 refine EY 3 0 [] [[(an 3 2)]] [Qb (z+1),Qb (z+1),Qb (z+1)] [(Bo z)] ⟨w,n319,[(Ak w),(FY c z),(Yz y8 h c z),(Gz y8 z),(qt5j_7 y8 h c n316)]⟩ rfl ⟨rfl,rfl,rfl,Ae⟩ ?_
 refine AA [.at 2,.at 2,.at 2] [Qb (z+1),Qb (z+1),Qb (z+1)] (.agg #[i6 ((Bc [(Ah false 415 ⟨(h:Int), -1⟩),(Ah false 416 ⟨(h:Int), -1⟩),(Ah (win ((BB c (h:Int):Nat):Int) 1 (AB y8)) 417 ⟨(h:Int), -1⟩)]).e),i6 ((Bc [(Ah false 415 ⟨(h:Int), -1⟩),(Ah false 416 ⟨(h:Int), -1⟩),(Ah (win ((BB c (h:Int):Nat):Int) 1 (AB y8)) 417 ⟨(h:Int), -1⟩)]).Ai.First),i6 ((Bc [(Ah false 415 ⟨(h:Int), -1⟩),(Ah false 416 ⟨(h:Int), -1⟩),(Ah (win ((BB c (h:Int):Nat):Int) 1 (AB y8)) 417 ⟨(h:Int), -1⟩)]).Ai.Second)]) ⟨rfl,rfl,rfl,Ae⟩ ?_
 intro w321 hw321
 have e0:MF c h=y8:=hy8.symm
 have eC:Dx c h=(Bc [(Ah false 415 ⟨(h:Int), -1⟩),(Ah false 416 ⟨(h:Int), -1⟩),(Ah (win ((BB c (h:Int):Nat):Int) 1 (AB y8)) 417 ⟨(h:Int), -1⟩)]):=by unfold Dx;simp only[e0];simp[h178,h283]
 exact⟨congrArg (fun t=>Ending.returned (Value.agg (Ar.arr t))) eC.symm,AO hw321⟩
end Go.Proofs.YtnjhekfgmbpmlaaDoor.Ad
