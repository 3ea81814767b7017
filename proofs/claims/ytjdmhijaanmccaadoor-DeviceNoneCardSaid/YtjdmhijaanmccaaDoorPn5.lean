/- Packed: Ln, Lo, Lp, Vf, Row. No conditions. -/
import Derived.Test.YtjdmhijaanmccaaDoorPn4
import Derived.Test.YtjdmhijaanmccaaDoorRows
import Derived.WalkKit
import Derived.ProofKit
import Derived.OpenShut
import Derived.ShutString
import Derived.ChangeOld
import Derived.Below
import Derived.Carry
import Derived.SizedLaws
set_option maxHeartbeats 4000000
namespace Go.Proofs.YtjdmhijaanmccaaDoor.Ly
open Go Go.Proofs.YtjdmhijaanmccaaDoor.Eng Go.Proofs.YtjdmhijaanmccaaDoor.Mem
set_option linter.unusedSimpArgs false
set_option linter.unusedVariables false
set_option maxRecDepth 100000
structure Bl where
 At:Int
 Size:Int
 A8:CJ
 deriving Inhabited,DecidableEq
def Bl.cells(x:Bl):List Value:=[.int .i64 x.At]++[.int .i64 x.Size]++CJ.cells x.A8
abbrev Bl.arr(x:Bl):Array Value:= #[.int .i64 x.At,.int .i64 x.Size,.int .i64 x.A8.Kind,.int .i64 x.A8.Index,.int .i64 x.A8.Port]
structure Bl.ok(F:Nat→Prop)(W:World)(x:Bl):Prop where
 At:HY .i64 x.At
 Size:HY .i64 x.Size
 A8:CJ.ok F W x.A8
theorem Bl.ok.ext{F F':Nat→Prop}{W W':World}(he:Ext F W W')(hF:∀ b,F b→F' b){x:Bl}(h:Bl.ok F W x):Bl.ok F' W' x:=⟨h.At,h.Size,CJ.ok.ext he hF h.A8⟩
def YK(c:Aj)(i:Nat):List Bl:=[⟨CG c i,2,⟨3,(i:Int),0⟩⟩,⟨CG c i+2,17,⟨4,(i:Int),0⟩⟩,⟨CG c i+2+17,5,⟨5,(i:Int),0⟩⟩]
def Fp(c:Aj)(i:Nat):List Bl:=[⟨16*c.Kernel,2,⟨2,0,0⟩⟩]++(List.range i).flatMap (YK c)
def Tj(c:Aj)(k:Nat)(e:Fj)(j:Nat):Bl:=⟨GR c k j,portOf (gd c.Ah.xs k),⟨8,e.partition,e.port⟩⟩
def Hr(c:Aj)(k:Nat)(l:List Fj):List Bl:=(List.range l.length).map (fun j=>Tj c k (gd l j) j)
def SX(c:Aj)(k:Nat):List Bl:=[⟨CE c k,2,⟨6,(k:Int),0⟩⟩,⟨CE c k+2,Bz (gd c.Ah.xs k),⟨7,(k:Int),0⟩⟩]++Hr c k (BV c (k:Int) false)
def GV(c:Aj)(k:Nat):List Bl:=(List.range k).flatMap (SX c)
def Hy(c:Aj)(p n:Nat):List Bl:=(List.range n).map (fun(u:Nat)=>(⟨16*(DD c p+(u:Int)),16,⟨9,(p:Int),0⟩⟩:Bl))
def LK(c:Aj)(p:Nat):List Bl:=(List.range p).flatMap (fun p=>Hy c p (1+Iu (gd c.Aa.xs p)))
def CP(c:Aj):List Bl:=Fp c c.Aa.xs.length++GV c c.Ah.xs.length++LK c c.Aa.xs.length
theorem VQ{c:Aj}{i:Nat}:Fp c (i+1)=Fp c i++[⟨CG c i,2,⟨3,(i:Int),0⟩⟩]++[⟨CG c i+2,17,⟨4,(i:Int),0⟩⟩]++[⟨CG c i+2+17,5,⟨5,(i:Int),0⟩⟩]:=by
 unfold Fp;rw[List.range_succ,List.flatMap_append];simp[YK]
theorem Xa{c:Aj}:∀ (i:Nat),(Fp c i).length=1+3*i
 | 0=>rfl
 | i+1=>by rw[VQ];simp[Xa i];omega
theorem Si{c:Aj}{k:Nat}{l:List Fj}:(Hr c k l).length=l.length:=by simp[Hr]
theorem YZ{c:Aj}{k:Nat}{l:List Fj}{e:Fj}:Hr c k (l++[e])=Hr c k l++[Tj c k e l.length]:=by
 unfold Hr
 rw[List.length_append,List.length_singleton,List.range_succ,List.map_append]
 congr 1
 ·refine List.map_congr_left fun j hj => ?_
  rw[ZaS (List.mem_range.1 hj)]
 simp only[List.map_cons,List.map_nil,ZA]
theorem VO{c:Aj}{k:Nat}:GV c (k+1)=GV c k++SX c k:=by unfold GV;rw[List.range_succ,List.flatMap_append];simp
theorem XG{c:Aj}(hf:Fine c):∀ (k:Nat),k≤c.Ah.xs.length→(GV c k).length≤6*k
 | 0,_=>by simp[GV]
 | k+1,h=>by
  have h1:=XG hf k (by omega)
  have h2:=hf.UX (show k<c.Ah.xs.length by omega)
  unfold Jk at h2
  rw[VO,SX,List.length_append,List.length_append,Si]
  simp only[List.length_cons,List.length_nil];omega
theorem Sz{c:Aj}{p n:Nat}:Hy c p (n+1)=Hy c p n++[⟨16*(DD c p+(n:Int)),16,⟨9,(p:Int),0⟩⟩]:=by unfold Hy;rw[List.range_succ,List.map_append];rfl
theorem WQ{c:Aj}{p n:Nat}:(Hy c p n).length=n:=by simp[Hy]
theorem VK{c:Aj}{p:Nat}:LK c (p+1)=LK c p++Hy c p (1+Iu (gd c.Aa.xs p)):=by unfold LK;rw[List.range_succ,List.flatMap_append];simp
theorem Xu{c:Aj}:∀ (p:Nat),(LK c p).length≤17*p
 | 0=>by simp[LK]
 | p+1=>by
  have h1:=Xu (c:=c) p
  have h2:=Rx (gd c.Aa.xs p)
  rw[VK,List.length_append,WQ];omega
theorem pieces_len{c:Aj}(hf:Fine c):(CP c).length≤400:=by
 have h1:=Xa (c:=c) c.Aa.xs.length
 have h2:=XG hf c.Ah.xs.length (Nat.le_refl _)
 have h3:=Xu (c:=c) c.Aa.xs.length
 have hpn:=hf.pn;have hcn:=hf.cn
 unfold CP
 rw[List.length_append,List.length_append];omega
theorem Zr{c:Aj}{k j:Nat}(hj:j≤64):CE c k≤GR c k j∧GR c k j≤CE c k+9100:=by
 have h1:=LD (gd c.Ah.xs k)
 have h2:=Ri (gd c.Ah.xs k)
 unfold GR
 have h4:=Int.mul_nonneg (show(0:Int)≤(j:Int)by omega) h2.1
 have h5:=Int.mul_le_mul (show(j:Int)≤64 by omega) h2.2 h2.1 (by omega)
 omega
theorem Zl{x:Aq}(hr:∀ i,i<x.Ai.xs.length→Jo (gd x.Ai.xs i)=true):(List.range 16).countP (fun b=>GL x b)=Iu x:=by
 unfold Iu
 congr 1
 funext b
 exact touch_tab hr b
theorem rmay_yes(w:World)(c:Aj)(hc:Aj.ok Any w c)(h:Eh c=true):Calls Tryd.prog 30 #[.agg (Aj.arr c)] w fun e w'=>e = .returned (.bool true)∧CZ (fun _=>False) w w':=by
 have:=ZU w c hc
 rwa [h]at this
section
variable (n36:Nat)(c:Aj)(k:Nat)(y30:AP)(n10 i:Nat)(n21 z n6:Nat)(aR3:Option Addr)(p:Nat)(y55:Aq)(q cR3:Nat)(aR2:Option Addr)(cR2:Nat)(aR7:Option Addr)(u cR7:Nat)(aR5:Option Addr)(cR5:Nat)(aR1:Option Addr)(cR1:Nat)(ax72:Option Addr)(cp73:Nat)(ax16:Option Addr)(cp17:Nat)(ax38:Option Addr)(cp39 t:Nat)(w:World)
abbrev IQ:=bk n36 #[i6 ((CE c k)+2),i6 (Bz y30),i6 7,Ac k,i6 0] 97
abbrev WP:=bk n10 #[i6 ((CG c i)+2),i6 17,i6 4,Ac i,i6 0] 97
abbrev IB:=bk (n21+1) #[i6 (CE c k),i6 2,i6 6,Ac k,i6 0] 97
abbrev E5:=bk (z+1) #[i6 (16*c.Kernel),i6 2,i6 2,i6 0,i6 0] 97
abbrev U6:=bk n6 #[i6 (CG c i),i6 2,i6 3,Ac i,i6 0] 97
abbrev IC:=bk n21 (AP.arr y30) 115
abbrev EC:=bk z (Aj.arr c) 26
abbrev PE:=Ci z 97 5 Bl.cells (.slice aR3 ((Fp c i++GV c k++[(⟨CE c k,2,(⟨6,(k:Int),0⟩:CJ)⟩:Bl)]++[(⟨CE c k+2,Bz y30,(⟨7,(k:Int),0⟩:CJ)⟩:Bl)]++Hr c k (CU c (k:Int) false p++Cm p y55 (k:Int) false q)).length) cR3) (Fp c i++GV c k++[(⟨CE c k,2,(⟨6,(k:Int),0⟩:CJ)⟩:Bl)]++[(⟨CE c k+2,Bz y30,(⟨7,(k:Int),0⟩:CJ)⟩:Bl)]++Hr c k (CU c (k:Int) false p++Cm p y55 (k:Int) false q))
abbrev JR:=Ci z 97 5 Bl.cells (.slice aR2 ((Fp c i++GV c k++[(⟨CE c k,2,(⟨6,(k:Int),0⟩:CJ)⟩:Bl)]++[(⟨CE c k+2,Bz y30,(⟨7,(k:Int),0⟩:CJ)⟩:Bl)]++Hr c k (CU c (k:Int) false p)).length) cR2) (Fp c i++GV c k++[(⟨CE c k,2,(⟨6,(k:Int),0⟩:CJ)⟩:Bl)]++[(⟨CE c k+2,Bz y30,(⟨7,(k:Int),0⟩:CJ)⟩:Bl)]++Hr c k (CU c (k:Int) false p))
abbrev TB:=Ci z 97 5 Bl.cells (.slice aR7 ((Fp c i++GV c k++LK c p++Hy c p u).length) cR7) (Fp c i++GV c k++LK c p++Hy c p u)
abbrev MB:=Ci z 97 5 Bl.cells (.slice aR5 ((Fp c i++GV c k++LK c p).length) cR5) (Fp c i++GV c k++LK c p)
abbrev Ig:=Ci z 97 5 Bl.cells (.slice aR1 ((Fp c i++GV c k).length) cR1) (Fp c i++GV c k)
abbrev UQ:Dc:=(3,.slice ax72 ((Fp c i++GV c k++[(⟨CE c k,2,(⟨6,(k:Int),0⟩:CJ)⟩:Bl)]++[(⟨CE c k+2,Bz y30,(⟨7,(k:Int),0⟩:CJ)⟩:Bl)]++Hr c k (CU c (k:Int) false p++Cm p y55 (k:Int) false q)++[(⟨GR c k (CU c (k:Int) false p++Cm p y55 (k:Int) false q).length,portOf y30,(⟨8,(p:Int),(q:Int)⟩:CJ)⟩:Bl)]).length) cp73)
abbrev V4:Dc:=(125,.slice aR3 ((Fp c i++GV c k++[(⟨CE c k,2,(⟨6,(k:Int),0⟩:CJ)⟩:Bl)]++[(⟨CE c k+2,Bz y30,(⟨7,(k:Int),0⟩:CJ)⟩:Bl)]++Hr c k (CU c (k:Int) false p++Cm p y55 (k:Int) false q)).length) cR3)
abbrev JJ:Dc:=(3,.slice aR3 ((Fp c i++GV c k++[(⟨CE c k,2,(⟨6,(k:Int),0⟩:CJ)⟩:Bl)]++[(⟨CE c k+2,Bz y30,(⟨7,(k:Int),0⟩:CJ)⟩:Bl)]++Hr c k (CU c (k:Int) false p++Cm p y55 (k:Int) false q)).length) cR3)
abbrev Va:Dc:=(3,.slice ax16 ((((Fp c i++[(⟨CG c i,2,(⟨3,(i:Int),0⟩:CJ)⟩:Bl)])++[(⟨(CG c i)+2,17,(⟨4,(i:Int),0⟩:CJ)⟩:Bl)])++[(⟨((CG c i)+2)+17,5,(⟨5,(i:Int),0⟩:CJ)⟩:Bl)]).length) cp17)
abbrev Ib:Dc:=(3,.slice aR2 ((Fp c i++GV c k++[(⟨CE c k,2,(⟨6,(k:Int),0⟩:CJ)⟩:Bl)]++[(⟨CE c k+2,Bz y30,(⟨7,(k:Int),0⟩:CJ)⟩:Bl)]++Hr c k (CU c (k:Int) false p)).length) cR2)
abbrev XJ:Dc:=(3,.slice ax38 (((Fp c i++GV c k++[(⟨CE c k,2,(⟨6,(k:Int),0⟩:CJ)⟩:Bl)])++[(⟨(CE c k)+2,Bz y30,(⟨7,(k:Int),0⟩:CJ)⟩:Bl)]).length) cp39)
abbrev Tt:=(12,i6 (((1+(List.range t).countP (fun b=>GL (gd c.Aa.xs p) b))+1:Nat):Int))
abbrev NV:=(166,i6 ((1+(List.range t).countP (fun b=>GL (gd c.Aa.xs p) b):Nat):Int))
abbrev Kz:=(12,i6 ((1+(List.range t).countP (fun b=>GL (gd c.Aa.xs p) b):Nat):Int))
abbrev Jb:=(4,i6 (GR c k (CU c (k:Int) false p++Cm p y55 (k:Int) false q).length))
abbrev Ie:=(4,i6 (GR c k (CU c (k:Int) false p).length))
abbrev H9:Dc:=(3,.slice aR5 ((Fp c i++GV c k++LK c p).length) cR5)
abbrev FN:=(149,Ac c.Aa.xs.length)
abbrev Gv:=(27,Ac c.Aa.xs.length)
abbrev EZ:=(93,Ac c.Aa.xs.length)
abbrev Ed:=(60,Ac c.Ah.xs.length)
abbrev Ih:=(103,Ac y55.Ar.xs.length)
abbrev GG:Dc:=(3,.slice aR1 ((Fp c i++GV c k).length) cR1)
abbrev O8:=(4,i6 (16*(DD c p+(u:Int))))
abbrev Nv:=(104,i6 ((q+1:Nat):Int))
abbrev EK:=(7,pt n21)
abbrev Nw:=[(Ak w),(EC c z),(E5 c z),(PE c k y30 i z aR3 p y55 q cR3),(IC y30 n21),(IB c k n21),(IQ n36 c k y30)]
end
theorem Yl(w:World)(c:Aj)(hc:Aj.ok Any w c)(hok:Eh c=true):Calls Tryd.prog 32 #[.agg (Aj.arr c)] w fun e w'=>∃ a cp,e = .returned (.slice a (CP c).length cp)∧Uy Bl.cells 5 (New w.heap.size) w' ⟨a,cp,CP c⟩∧CZ (fun _=>False) w w':=by
 obtain⟨z,hz⟩:∃ z,z=w.heap.size:=⟨_,rfl⟩
 refine Cb (args:=[.agg (Aj.arr c)]) 181 ⟨w,z,[(Ak w)]⟩ Tryd.func32 rfl (by kernel_rfl) (by kernel_rfl) (ES hz) ?_
 have hfine:=Vf hok;have hkn:=hfine.kn;have hpn:=hfine.pn;have hcn:=hfine.cn;have h8:∀ i,i<c.Aa.xs.length→(gd c.Aa.xs i).Ar.xs.length≤8:=fun i hi=>ML (hfine.parts i hi)
 refine Ee [0] [(0,.agg (Aj.arr c))] ?_
 refine q_c 14 5 [] [[o0,o0],[o0],[o0,(a1 1),(ov (i6 (16*c.Kernel))),o0],[o0,o0,o0,o0,o0]] [Qb z,Wr ((16:Int)*c.Kernel) (16*c.Kernel)] [(1,pt z),(4,i6 (16*c.Kernel)),(17,.slice none 0 0),(21,.slice (some ⟨z+1,0,none⟩) 1 1)] ⟨w,z+2,[(Ak w),(EC c z),(E5 c z)]⟩ rfl ⟨rfl,CB,Af⟩ ?_
 refine l_rowL z 97 5 Bl.cells ?_
 refine MO z 3 2 ([]) [(⟨16*c.Kernel,2,(⟨2,0,0⟩:CJ)⟩:Bl)] Bl.cells 97 5 40 (.slice none 0 0) (z+1) 1 1 #[i6 (16*c.Kernel),i6 2,i6 2,i6 0,i6 0] 97 (0,0) true (some 22) (by simp only[List.length_cons,List.length_nil,List.length_append];omega) (show z≤z+2 by omega) (fun ax1 cp2 n3 (hn4:z+2≤n3) => ?_)
 refine Cc 12 0 [] [[o0],[o0,(ov (i6 ((16*c.Kernel)+2))),o0],[o0,(a1 1),o0,o0]] [Wr ((16*c.Kernel:Int)+2) ((16*c.Kernel)+2),Qb z] [(1,pt z),(3,.slice ax1 (([]++[(⟨16*c.Kernel,2,(⟨2,0,0⟩:CJ)⟩:Bl)]).length) cp2),(4,i6 ((16*c.Kernel)+2)),(Gv c),(28,i6 0)] rfl ⟨CB,rfl,Af⟩ ?_
 refine DY (fun m a w'=>∃ (n6:Nat) (i:Nat) (aR0:Option Addr) (cR0:Nat),m=c.Aa.xs.length - i∧n3≤n6∧(i≤c.Aa.xs.length)∧St 181 [(1,pt z),(3,.slice aR0 ((Fp c i).length) cR0),(4,i6 (CG c i)),(Gv c),(28,Ac i)] [] ⟨w,n6,[(Ak w),(EC c z),(E5 c z),(Ci z 97 5 Bl.cells (.slice aR0 ((Fp c i).length) cR0) (Fp c i))]⟩ a w') (c.Aa.xs.length - 0) ?_ ?_
 ·intro a w' hs;exact⟨n3,0,ax1,cp2,rfl,Nat.le_refl _,Nat.zero_le _,by(try dsimp only[E5,EC,Gv]at hs ⊢);rw[show CG c 0=(16*c.Kernel)+2 from by unfold CG;omega];exact hs⟩
 rintro m a w' ⟨n6,i,aR0,cR0,rfl,hn5,hki,hs⟩
 refine(?_:G Tryd.prog 181 [(1,pt z),(3,.slice aR0 ((Fp c i).length) cR0),(4,i6 (CG c i)),(Gv c),(28,Ac i)] [] ⟨w,n6,[(Ak w),(EC c z),(E5 c z),(Ci z 97 5 Bl.cells (.slice aR0 ((Fp c i).length) cR0) (Fp c i))]⟩ _ _ _) a w' hs
 clear hs a w'
 have hpA:CG c i=c.Kernel*16+2+24*(i:Int):=rfl
 have hlp:=Xa (c:=c) i
 refine DW ?_
 by_cases h7:(i:Int)<(c.Aa.xs.length:Int)
 ·refine q_c 15 6 [1] [[oT],[o0,o0],[o0,o0,o0,o0,o0,o0]] [BT ((i:Int)<(c.Aa.xs.length:Int))] [(1,pt z),(4,i6 (CG c i)),(Gv c),(28,Ac i),(5,Ac i),(31,.slice aR0 ((Fp c i).length) cR0),(36,.slice (some ⟨n6,0,none⟩) 1 1)] ⟨w,n6+1,[(Ak w),(EC c z),(E5 c z),(Ci z 97 5 Bl.cells (.slice aR0 ((Fp c i).length) cR0) (Fp c i)),(U6 c i n6)]⟩ rfl ⟨bt,Af⟩ ?_
  refine MO z 3 4 (Fp c i) [(⟨CG c i,2,(⟨3,(i:Int),0⟩:CJ)⟩:Bl)] Bl.cells 97 5 40 (.slice aR0 ((Fp c i).length) cR0) n6 1 1 #[i6 (CG c i),i6 2,i6 3,Ac i,i6 0] 97 (0,0) true (some 37) (by simp only[List.length_cons,List.length_nil,List.length_append];omega) (show z≤n6+1 by omega) (fun ax8 cp9 n10 (hn11:n6+1≤n10) => ?_)
  refine Gi 4 7 [] [[o0],[o0,o0,(ov (i6 ((CG c i)+2))),o0,o0,o0,o0]] [Wr ((CG c i:Int)+2) ((CG c i)+2)] [(1,pt z),(4,i6 (CG c i)),(Gv c),(28,Ac i),(5,Ac i),(38,.slice ax8 ((Fp c i++[(⟨CG c i,2,(⟨3,(i:Int),0⟩:CJ)⟩:Bl)]).length) cp9),(44,.slice (some ⟨n10,0,none⟩) 1 1)] ⟨w,n10+1,[(Ak w),(EC c z),(E5 c z),(Ci z 97 5 Bl.cells (.slice ax8 ((Fp c i++[(⟨CG c i,2,(⟨3,(i:Int),0⟩:CJ)⟩:Bl)]).length) cp9) (Fp c i++[(⟨CG c i,2,(⟨3,(i:Int),0⟩:CJ)⟩:Bl)])),(U6 c i n6),(WP c n10 i)]⟩ rfl ⟨CB,Af⟩ ?_
  refine MO z 3 5 (Fp c i++[(⟨CG c i,2,(⟨3,(i:Int),0⟩:CJ)⟩:Bl)]) [(⟨(CG c i)+2,17,(⟨4,(i:Int),0⟩:CJ)⟩:Bl)] Bl.cells 97 5 40 (.slice ax8 ((Fp c i++[(⟨CG c i,2,(⟨3,(i:Int),0⟩:CJ)⟩:Bl)]).length) cp9) n10 1 1 #[i6 ((CG c i)+2),i6 17,i6 4,Ac i,i6 0] 97 (0,0) true (some 45) (by simp only[List.length_cons,List.length_nil,List.length_append];omega) (show z≤n10+1 by omega) (fun ax12 cp13 n14 (hn15:n10+1≤n14) => ?_)
  refine Gi 4 8 [] [[o0],[o0,o0,(ov (i6 ((CG c i)+2))),(ov (i6 (((CG c i)+2)+17))),o0,o0,o0,o0]] [Wr ((CG c i:Int)+2) ((CG c i)+2),Wr (((CG c i)+2:Int)+17) (((CG c i)+2)+17)] [(1,pt z),(4,i6 (CG c i)),(Gv c),(28,Ac i),(46,.slice ax12 (((Fp c i++[(⟨CG c i,2,(⟨3,(i:Int),0⟩:CJ)⟩:Bl)])++[(⟨(CG c i)+2,17,(⟨4,(i:Int),0⟩:CJ)⟩:Bl)]).length) cp13),(53,.slice (some ⟨n14,0,none⟩) 1 1)] ⟨w,n14+1,[(Ak w),(EC c z),(E5 c z),(Ci z 97 5 Bl.cells (.slice ax12 (((Fp c i++[(⟨CG c i,2,(⟨3,(i:Int),0⟩:CJ)⟩:Bl)])++[(⟨(CG c i)+2,17,(⟨4,(i:Int),0⟩:CJ)⟩:Bl)]).length) cp13) ((Fp c i++[(⟨CG c i,2,(⟨3,(i:Int),0⟩:CJ)⟩:Bl)])++[(⟨(CG c i)+2,17,(⟨4,(i:Int),0⟩:CJ)⟩:Bl)])),(U6 c i n6),(WP c n10 i),(bk n14 #[i6 (((CG c i)+2)+17),i6 5,i6 5,Ac i,i6 0] 97)]⟩ rfl ⟨CB,CB,Af⟩ ?_
  refine MO z 3 6 ((Fp c i++[(⟨CG c i,2,(⟨3,(i:Int),0⟩:CJ)⟩:Bl)])++[(⟨(CG c i)+2,17,(⟨4,(i:Int),0⟩:CJ)⟩:Bl)]) [(⟨((CG c i)+2)+17,5,(⟨5,(i:Int),0⟩:CJ)⟩:Bl)] Bl.cells 97 5 40 (.slice ax12 (((Fp c i++[(⟨CG c i,2,(⟨3,(i:Int),0⟩:CJ)⟩:Bl)])++[(⟨(CG c i)+2,17,(⟨4,(i:Int),0⟩:CJ)⟩:Bl)]).length) cp13) n14 1 1 #[i6 (((CG c i)+2)+17),i6 5,i6 5,Ac i,i6 0] 97 (0,0) true (some 54) (by simp only[List.length_cons,List.length_nil,List.length_append];omega) (show z≤n14+1 by omega) (fun ax16 cp17 n18 (hn19:n14+1≤n18) => ?_)
  refine Cc 8 0 [] [[o0],[o0,(ov (i6 ((CG c i)+24))),o0],[(ov (i6 ((i+1:Nat):Int))),o0]] [Wr ((CG c i:Int)+24) ((CG c i)+24),Wr ((i:Int)+1) (((i+1:Nat):Int))] [(1,pt z),(4,i6 ((CG c i)+24)),(Gv c),(28,i6 ((i+1:Nat):Int)),(Va c i ax16 cp17)] rfl ⟨CB,CB,Af⟩ ?_
  refine BX [0,1,2,3] [(Ak w),(EC c z),(E5 c z),(Ci z 97 5 Bl.cells (.slice ax16 ((((Fp c i++[(⟨CG c i,2,(⟨3,(i:Int),0⟩:CJ)⟩:Bl)])++[(⟨(CG c i)+2,17,(⟨4,(i:Int),0⟩:CJ)⟩:Bl)])++[(⟨((CG c i)+2)+17,5,(⟨5,(i:Int),0⟩:CJ)⟩:Bl)]).length) cp17) (((Fp c i++[(⟨CG c i,2,(⟨3,(i:Int),0⟩:CJ)⟩:Bl)])++[(⟨(CG c i)+2,17,(⟨4,(i:Int),0⟩:CJ)⟩:Bl)])++[(⟨((CG c i)+2)+17,5,(⟨5,(i:Int),0⟩:CJ)⟩:Bl)]))] rfl rfl ?_
  refine BR [1,3,4,27,28] [(1,pt z),(Va c i ax16 cp17),(4,i6 ((CG c i)+24)),(Gv c),(28,i6 ((i+1:Nat):Int))] ?_
  refine Cf (fun a w' hs=>⟨c.Aa.xs.length - (i+1),by omega,n18,(i+1),ax16,cp17,rfl,by omega,by omega,by(try dsimp only[WP,E5,U6,EC,Va,Gv]at hs ⊢);rw[show CG c (i+1)=(CG c i)+24 from by unfold CG;omega,VQ];exact hs⟩)
 refine Az 16 0 [0] [[oF],[o0,(a1 1),o0,o0]] [BF ((i:Int)<(c.Aa.xs.length:Int)),Qb z] [(1,pt z),(3,.slice aR0 ((Fp c i).length) cR0),(4,i6 (CG c i)),(Ed c),(61,i6 0)] rfl ⟨bf,rfl,Af⟩ ?_
 refine DY (fun m a w'=>∃ (n21:Nat) (k:Nat) (aR1:Option Addr) (cR1:Nat),m=c.Ah.xs.length - k∧n6≤n21∧(k≤c.Ah.xs.length)∧St 181 [(1,pt z),(GG c k i aR1 cR1),(4,i6 (CE c k)),(Ed c),(61,Ac k)] [] ⟨w,n21,[(Ak w),(EC c z),(E5 c z),(Ig c k i z aR1 cR1)]⟩ a w') (c.Ah.xs.length - 0) ?_ ?_
 ·intro a w' hs;exact⟨n6,0,aR0,cR0,rfl,Nat.le_refl _,Nat.zero_le _,by(try dsimp only[WP,E5,U6,EC,Ig,Va,Gv,Ed,GG]at hs ⊢);rw[show GV c 0=[]from rfl,List.append_nil,show CE c 0=CG c i from by rw[show i=c.Aa.xs.length by omega];rfl];exact hs⟩
 rintro m a w' ⟨n21,k,aR1,cR1,rfl,hn20,hkk,hs⟩
 refine(?_:G Tryd.prog 181 [(1,pt z),(GG c k i aR1 cR1),(4,i6 (CE c k)),(Ed c),(61,Ac k)] [] ⟨w,n21,[(Ak w),(EC c z),(E5 c z),(Ig c k i z aR1 cR1)]⟩ _ _ _) a w' hs
 clear hs a w'
 have hcb:=Rz hfine k (by omega)
 have hp0:CG c c.Aa.xs.length=c.Kernel*16+2+24*(c.Aa.xs.length:Int):=rfl
 have hlc:=XG hfine k (by omega)
 refine DW ?_
 by_cases h22:(k:Int)<(c.Ah.xs.length:Int)
 ·refine Az 14 0 [1] [[oT],[o0,o0]] [BT ((k:Int)<(c.Ah.xs.length:Int))] [(1,pt z),(GG c k i aR1 cR1),(4,i6 (CE c k)),(Ed c),(61,Ac k),(6,Ac k)] rfl ⟨bt,Af⟩ ?_
  obtain⟨b23,o24,ha25,hF27,hc26⟩:=(hc.Ah).1.all (show 0<c.Ah.xs.length by omega)
  replace ha25:c.Ah.a=some ⟨b23,o24,none⟩:=ha25
  have hc28:=hc26 k (show k<c.Ah.xs.length by omega)
  have he29:=(hc.Ah).2 k (show k<c.Ah.xs.length by omega)
  obtain⟨y30,hy30⟩:∃ y_,y_=gd c.Ah.xs k:=⟨_,rfl⟩
  rw[←hy30]at he29 hc28
  have hsb:=LD y30;have hpb:=Ri y30;have hlb:=WV hfine (show k<c.Ah.xs.length by omega)
  refine q_c 5 6 [] [[o0,(Gy 1 b23 o24 c.Ah),o0,(oi k),(ol 0 (AP.arr y30)),o0,(an 3 4)],[o0,o0,o0,o0,o0,o0]] [Qb z,FO b23 o24 c.Ah,DJ k,k<c.Ah.xs.length,Di,He w b23 (o24+k*3) (AP.arr y30),Qb n21,Qb n21,Qb n21] [(1,pt z),(4,i6 (CE c k)),(Ed c),(61,Ac k),(6,Ac k),(EK n21),(69,.slice aR1 ((Fp c i++GV c k).length) cR1),(74,.slice (some ⟨n21+1,0,none⟩) 1 1)] ⟨w,n21+2,[(Ak w),(EC c z),(E5 c z),(Ig c k i z aR1 cR1),(IC y30 n21),(IB c k n21)]⟩ rfl ⟨rfl,FP ha25,rfl,(by omega),rfl,EH hc28,rfl,rfl,rfl,Af⟩ ?_
  refine MO z 3 5 (Fp c i++GV c k) [(⟨CE c k,2,(⟨6,(k:Int),0⟩:CJ)⟩:Bl)] Bl.cells 97 5 40 (.slice aR1 ((Fp c i++GV c k).length) cR1) (n21+1) 1 1 #[i6 (CE c k),i6 2,i6 6,Ac k,i6 0] 97 (0,0) true (some 75) (by simp only[List.length_cons,List.length_nil,List.length_append];omega) (show z≤n21+2 by omega) (fun ax31 cp32 n33 (hn34:n21+2≤n33) => ?_)
  refine Cc 4 4 [] [[o0],[o0,o0,(ov (i6 ((CE c k)+2))),(an 3 4)]] [Wr ((CE c k:Int)+2) ((CE c k)+2),Qb n21,Qb n21,Qb n21] [(1,pt z),(4,i6 (CE c k)),(Ed c),(61,Ac k),(6,Ac k),(EK n21),(76,.slice ax31 ((Fp c i++GV c k++[(⟨CE c k,2,(⟨6,(k:Int),0⟩:CJ)⟩:Bl)]).length) cp32),(78,i6 ((CE c k)+2)),(79,.agg (AP.arr y30))] rfl ⟨CB,rfl,rfl,rfl,Af⟩ ?_
  refine BI 56 #[.agg (AP.arr y30)] (some 80) (i6 (Bz y30)) (fun w35 hw35=>U5 w35 y30 (he29.ext (hw35.ext rfl) (fun _ h=>h))) (fun n36 (hn37:n33≤n36) => ?_)
  refine Gi 0 4 [] [[o0,o0,o0,o0]] [] [(1,pt z),(4,i6 (CE c k)),(Ed c),(61,Ac k),(6,Ac k),(EK n21),(76,.slice ax31 ((Fp c i++GV c k++[(⟨CE c k,2,(⟨6,(k:Int),0⟩:CJ)⟩:Bl)]).length) cp32),(84,.slice (some ⟨n36,0,none⟩) 1 1)] ⟨w,n36+1,[(Ak w),(EC c z),(E5 c z),(Ci z 97 5 Bl.cells (.slice ax31 ((Fp c i++GV c k++[(⟨CE c k,2,(⟨6,(k:Int),0⟩:CJ)⟩:Bl)]).length) cp32) (Fp c i++GV c k++[(⟨CE c k,2,(⟨6,(k:Int),0⟩:CJ)⟩:Bl)])),(IC y30 n21),(IB c k n21),(IQ n36 c k y30)]⟩ rfl Af ?_
  refine MO z 3 6 (Fp c i++GV c k++[(⟨CE c k,2,(⟨6,(k:Int),0⟩:CJ)⟩:Bl)]) [(⟨(CE c k)+2,Bz y30,(⟨7,(k:Int),0⟩:CJ)⟩:Bl)] Bl.cells 97 5 40 (.slice ax31 ((Fp c i++GV c k++[(⟨CE c k,2,(⟨6,(k:Int),0⟩:CJ)⟩:Bl)]).length) cp32) n36 1 1 #[i6 ((CE c k)+2),i6 (Bz y30),i6 7,Ac k,i6 0] 97 (0,0) true (some 85) (by simp only[List.length_cons,List.length_nil,List.length_append];omega) (show z≤n36+1 by omega) (fun ax38 cp39 n40 (hn41:n36+1≤n40) => ?_)
  refine Cc 4 2 [] [[o0],[o0,(an 3 4)]] [Qb n21,Qb n21,Qb n21] [(1,pt z),(Ed c),(61,Ac k),(6,Ac k),(EK n21),(XJ c k y30 i ax38 cp39),(86,i6 (CE c k)),(87,.agg (AP.arr y30))] rfl ⟨rfl,rfl,rfl,Af⟩ ?_
  refine BI 56 #[.agg (AP.arr y30)] (some 88) (i6 (Bz y30)) (fun w42 hw42=>U5 w42 y30 (he29.ext (hw42.ext rfl) (fun _ h=>h))) (fun n43 (hn44:n40≤n43) => ?_)
  refine Cc 7 0 [] [[(ov (i6 (2+(Bz y30)))),(ov (i6 ((CE c k)+(2+(Bz y30))))),o0],[o0,(a1 1),o0,o0]] [Wr ((2:Int)+(Bz y30)) (2+(Bz y30)),Wr ((CE c k:Int)+(2+(Bz y30))) ((CE c k)+(2+(Bz y30))),Qb z] [(1,pt z),(XJ c k y30 i ax38 cp39),(4,i6 ((CE c k)+(2+(Bz y30)))),(6,Ac k),(EK n21),(Ed c),(61,Ac k),(EZ c),(94,i6 0)] rfl ⟨CB,CB,rfl,Af⟩ ?_
  refine DY (fun m a w'=>∃ (n46:Nat) (p:Nat) (aR2:Option Addr) (cR2:Nat),m=c.Aa.xs.length - p∧n43≤n46∧(p≤c.Aa.xs.length)∧St 181 [(1,pt z),(Ib c k y30 i p aR2 cR2),(Ie c k p),(6,Ac k),(EK n21),(Ed c),(61,Ac k),(EZ c),(94,Ac p)] [] ⟨w,n46,[(Ak w),(EC c z),(E5 c z),(JR c k y30 i z p aR2 cR2),(IC y30 n21),(IB c k n21),(IQ n36 c k y30)]⟩ a w') (c.Aa.xs.length - 0) ?_ ?_
  ·intro a w' hs;exact⟨n43,0,ax38,cp39,rfl,Nat.le_refl _,Nat.zero_le _,by(try dsimp only[IQ,IB,E5,IC,EC,JR,Ig,Ib,XJ,Ie,Gv,EZ,Ed,GG,EK]at hs ⊢);rw[show CU c (k:Int) false 0=[]from rfl,show GR c k (List.length [])=(CE c k)+(2+(Bz y30))from by unfold GR;rw[←hy30,List.length_nil];omega,show Hr c k []=[]from rfl,List.append_nil];exact hs⟩
  rintro m a w' ⟨n46,p,aR2,cR2,rfl,hn45,hkp,hs⟩
  refine(?_:G Tryd.prog 181 [(1,pt z),(Ib c k y30 i p aR2 cR2),(Ie c k p),(6,Ac k),(EK n21),(Ed c),(61,Ac k),(EZ c),(94,Ac p)] [] ⟨w,n46,[(Ak w),(EC c z),(E5 c z),(JR c k y30 i z p aR2 cR2),(IC y30 n21),(IB c k n21),(IQ n36 c k y30)]⟩ _ _ _) a w' hs
  clear hs a w'
  have hle:=Q7 (k:=(k:Int)) (b:=false) h8 p (by omega)
  have hdb:=Zr (c:=c) (k:=k) (show(CU c (k:Int) false p).length≤64 by omega)
  have hld:=Si (c:=c) (k:=k) (l:=CU c (k:Int) false p)
  refine DW ?_
  by_cases h47:(p:Int)<(c.Aa.xs.length:Int)
  ·refine Az 14 0 [1] [[oT],[o0,o0]] [BT ((p:Int)<(c.Aa.xs.length:Int))] [(1,pt z),(Ib c k y30 i p aR2 cR2),(Ie c k p),(6,Ac k),(EK n21),(Ed c),(61,Ac k),(EZ c),(94,Ac p),(8,Ac p)] rfl ⟨bt,Af⟩ ?_
   obtain⟨b48,o49,ha50,hF52,hc51⟩:=(hc.Aa).1.all (show 0<c.Aa.xs.length by omega)
   replace ha50:c.Aa.a=some ⟨b48,o49,none⟩:=ha50
   have hc53:=hc51 p (show p<c.Aa.xs.length by omega)
   have he54:=(hc.Aa).2 p (show p<c.Aa.xs.length by omega)
   obtain⟨y55,hy55⟩:∃ y_,y_=gd c.Aa.xs p:=⟨_,rfl⟩
   rw[←hy55]at he54 hc53
   have h8p:=h8 p (by omega);rw[←hy55]at h8p
   refine Az 4 0 [] [[o0,(Gy 1 b48 o49 c.Aa),o0,(oi p),o0,(oa [.via 0 (.slice y55.Ar.a y55.Ar.xs.length y55.Ar.cap)]),o0,o0]] [Qb z,FO b48 o49 c.Aa,DJ p,p<c.Aa.xs.length,Di,Old w b48 (o49+p*8+7) (.slice y55.Ar.a y55.Ar.xs.length y55.Ar.cap)] [(1,pt z),(Ib c k y30 i p aR2 cR2),(Ie c k p),(6,Ac k),(EK n21),(8,Ac p),(Ed c),(61,Ac k),(EZ c),(94,Ac p),(Ih y55),(104,i6 0)] rfl ⟨rfl,FP ha50,rfl,(by omega),rfl,Aw (hc53 7 _ rfl),Af⟩ ?_
   refine DY (fun m a w'=>∃ (n57:Nat) (q:Nat) (aR3:Option Addr) (cR3:Nat),m=y55.Ar.xs.length - q∧n46≤n57∧(q≤y55.Ar.xs.length)∧St 181 [(1,pt z),(JJ c k y30 i aR3 p y55 q cR3),(Jb c k p y55 q),(6,Ac k),(EK n21),(8,Ac p),(Ed c),(61,Ac k),(EZ c),(94,Ac p),(Ih y55),(104,Ac q)] [] ⟨w,n57,(Nw n36 c k y30 i n21 z aR3 p y55 q cR3 w)⟩ a w') (y55.Ar.xs.length - 0) ?_ ?_
   ·intro a w' hs;exact⟨n46,0,aR2,cR2,rfl,Nat.le_refl _,Nat.zero_le _,by(try dsimp only[IQ,IB,E5,IC,EC,PE,JR,Ig,JJ,Ib,Jb,Ie,Gv,EZ,Ed,Ih,GG,EK,Nw]at hs ⊢);rw[show Cm p y55 (k:Int) false 0=[]from rfl,List.append_nil];exact hs⟩
   rintro m a w' ⟨n57,q,aR3,cR3,rfl,hn56,hkq,hs⟩
   refine(?_:G Tryd.prog 181 [(1,pt z),(JJ c k y30 i aR3 p y55 q cR3),(Jb c k p y55 q),(6,Ac k),(EK n21),(8,Ac p),(Ed c),(61,Ac k),(EZ c),(94,Ac p),(Ih y55),(104,Ac q)] [] ⟨w,n57,(Nw n36 c k y30 i n21 z aR3 p y55 q cR3 w)⟩ _ _ _) a w' hs
   clear hs a w'
   have hlq:(Cm p y55 (k:Int) false q).length≤q:=Py
   have hl2:(CU c (k:Int) false p++Cm p y55 (k:Int) false q).length=(CU c (k:Int) false p).length+(Cm p y55 (k:Int) false q).length:=List.length_append
   have hdb2:=Zr (c:=c) (k:=k) (show(CU c (k:Int) false p++Cm p y55 (k:Int) false q).length≤64 by omega)
   have hld2:=Si (c:=c) (k:=k) (l:=(CU c (k:Int) false p++Cm p y55 (k:Int) false q))
   refine DW ?_
   by_cases h58:(q:Int)<(y55.Ar.xs.length:Int)
   ·refine Az 14 0 [1] [[oT],[o0,o0]] [BT ((q:Int)<(y55.Ar.xs.length:Int))] [(1,pt z),(JJ c k y30 i aR3 p y55 q cR3),(Jb c k p y55 q),(6,Ac k),(EK n21),(8,Ac p),(Ed c),(61,Ac k),(EZ c),(94,Ac p),(Ih y55),(104,Ac q),(9,Ac q)] rfl ⟨bt,Af⟩ ?_
    obtain⟨b59,o60,ha61,hF63,hc62⟩:=(he54.Ar).1.all (show 0<y55.Ar.xs.length by omega)
    replace ha61:y55.Ar.a=some ⟨b59,o60,none⟩:=ha61
    have hc64:=hc62 q (show q<y55.Ar.xs.length by omega)
    have he65:=(he54.Ar).2 q (show q<y55.Ar.xs.length by omega)
    obtain⟨y66,hy66⟩:∃ y_,y_=gd y55.Ar.xs q:=⟨_,rfl⟩
    rw[←hy66]at he65 hc64
    refine q_c 4 0 [] [[o0,(Gy 1 b48 o49 c.Aa),o0,(oi p),o0,⟨.auto [.via 0 (.slice y55.Ar.a y55.Ar.xs.length y55.Ar.cap)],some (.slice (some ⟨b59,o60,none⟩) y55.Ar.xs.length y55.Ar.cap)⟩,o0,(oi q),(ol 0 (DK.arr y66)),o0,(an 2 7)]] [Qb z,FO b48 o49 c.Aa,DJ p,p<c.Aa.xs.length,Di,Old w b48 (o49+p*8+7) (.slice y55.Ar.a y55.Ar.xs.length y55.Ar.cap),FO b59 o60 y55.Ar,DJ q,q<y55.Ar.xs.length,Di,He w b59 (o60+q*2) (DK.arr y66),Qb n57,Qb n57] [(1,pt z),(JJ c k y30 i aR3 p y55 q cR3),(Jb c k p y55 q),(6,Ac k),(EK n21),(8,Ac p),(Ed c),(61,Ac k),(EZ c),(94,Ac p),(Ih y55),(104,Ac q),(9,Ac q),(10,pt n57)] ⟨w,n57+1,[(Ak w),(EC c z),(E5 c z),(PE c k y30 i z aR3 p y55 q cR3),(IC y30 n21),(IB c k n21),(IQ n36 c k y30),(bk n57 (DK.arr y66) 127)]⟩ rfl ⟨rfl,FP ha50,rfl,(by omega),rfl,Aw (hc53 7 _ rfl),FP ha61,rfl,(by omega),rfl,EH hc64,rfl,rfl,Af⟩ ?_
    by_cases h67:(y66.Channel:Int)=(k:Int)
    ·by_cases h68:y66.Source=true
     ·refine Az 9 0 [0] [[o0,(a1 7),o0,oT,o0,o0,(a1 7),(ov (.bool false)),o0],[(ov (i6 ((q+1:Nat):Int))),o0]] [Qb n57,ET y66.Channel (k:Int),Qb n57,Value.bool (!y66.Source)=Value.bool false,Wr ((q:Int)+1) (((q+1:Nat):Int))] [(1,pt z),(JJ c k y30 i aR3 p y55 q cR3),(Jb c k p y55 q),(6,Ac k),(EK n21),(8,Ac p),(Ed c),(61,Ac k),(EZ c),(94,Ac p),(Ih y55),(Nv q)] rfl ⟨rfl,et,rfl,by simp[h68],CB,Af⟩ ?_
      refine BX [0,1,2,3,4,5,6] (Nw n36 c k y30 i n21 z aR3 p y55 q cR3 w) rfl rfl ?_
      have hT:=JM (p:=p) (x:=y55) (k:=(k:Int)) (b:=false) (j:=q) (by rw[←hy66];exact Ti (by revert h68;cases y66.Source <;> simp))
      refine BR [1,3,4,6,7,8,60,61,93,94,103,104] [(1,pt z),(JJ c k y30 i aR3 p y55 q cR3),(Jb c k p y55 q),(6,Ac k),(EK n21),(8,Ac p),(Ed c),(61,Ac k),(EZ c),(94,Ac p),(Ih y55),(Nv q)] ?_
      refine Cf (fun a w' hs=>⟨y55.Ar.xs.length - (q+1),by omega,(n57+1),(q+1),aR3,cR3,rfl,by omega,by omega,by(try dsimp only[IQ,IB,E5,IC,EC,PE,JR,Ig,JJ,Ib,Jb,Ie,Gv,EZ,Ed,Ih,GG,Nv,EK,Nw]at hs ⊢);rw[hT];exact hs⟩)
     refine Az 6 3 [1] [[o0,(a1 7),o0,oT,o0,o0,(a1 7),(ov (.bool true)),o0],[o0,o0,(an 3 4)]] [Qb n57,ET y66.Channel (k:Int),Qb n57,Value.bool (!y66.Source)=Value.bool true,Qb n21,Qb n21,Qb n21] [(1,pt z),(Jb c k p y55 q),(6,Ac k),(EK n21),(8,Ac p),(Ed c),(61,Ac k),(EZ c),(94,Ac p),(Ih y55),(104,Ac q),(9,Ac q),(V4 c k y30 i aR3 p y55 q cR3),(126,i6 (GR c k (CU c (k:Int) false p++Cm p y55 (k:Int) false q).length)),(127,.agg (AP.arr y30))] rfl ⟨rfl,et,rfl,by simp[h68],rfl,rfl,rfl,Af⟩ ?_
     refine BI 54 #[.agg (AP.arr y30)] (some 128) (i6 (portOf y30)) (fun w69 hw69=>Sj w69 y30 (he29.ext (hw69.ext rfl) (fun _ h=>h))) (fun n70 (hn71:n57+1≤n70) => ?_)
     refine Gi 0 5 [] [[o0,o0,o0,o0,o0]] [] [(1,pt z),(Jb c k p y55 q),(6,Ac k),(EK n21),(8,Ac p),(Ed c),(61,Ac k),(EZ c),(94,Ac p),(Ih y55),(104,Ac q),(V4 c k y30 i aR3 p y55 q cR3),(133,.slice (some ⟨n70,0,none⟩) 1 1)] ⟨w,n70+1,[(Ak w),(EC c z),(E5 c z),(PE c k y30 i z aR3 p y55 q cR3),(IC y30 n21),(IB c k n21),(IQ n36 c k y30),(bk n57 (DK.arr y66) 127),(bk n70 #[i6 (GR c k (CU c (k:Int) false p++Cm p y55 (k:Int) false q).length),i6 (portOf y30),i6 8,Ac p,Ac q] 97)]⟩ rfl Af ?_
     refine MO z 3 8 (Fp c i++GV c k++[(⟨CE c k,2,(⟨6,(k:Int),0⟩:CJ)⟩:Bl)]++[(⟨CE c k+2,Bz y30,(⟨7,(k:Int),0⟩:CJ)⟩:Bl)]++Hr c k (CU c (k:Int) false p++Cm p y55 (k:Int) false q)) [(⟨GR c k (CU c (k:Int) false p++Cm p y55 (k:Int) false q).length,portOf y30,(⟨8,(p:Int),(q:Int)⟩:CJ)⟩:Bl)] Bl.cells 97 5 40 (.slice aR3 ((Fp c i++GV c k++[(⟨CE c k,2,(⟨6,(k:Int),0⟩:CJ)⟩:Bl)]++[(⟨CE c k+2,Bz y30,(⟨7,(k:Int),0⟩:CJ)⟩:Bl)]++Hr c k (CU c (k:Int) false p++Cm p y55 (k:Int) false q)).length) cR3) n70 1 1 #[i6 (GR c k (CU c (k:Int) false p++Cm p y55 (k:Int) false q).length),i6 (portOf y30),i6 8,Ac p,Ac q] 97 (0,0) true (some 134) (by simp only[List.length_cons,List.length_nil,List.length_append];omega) (show z≤n70+1 by omega) (fun ax72 cp73 n74 (hn75:n70+1≤n74) => ?_)
     refine Cc 3 2 [] [[o0],[o0,(an 3 4)]] [Qb n21,Qb n21,Qb n21] [(1,pt z),(6,Ac k),(EK n21),(8,Ac p),(Ed c),(61,Ac k),(EZ c),(94,Ac p),(Ih y55),(104,Ac q),(UQ c k y30 i p y55 q ax72 cp73),(135,i6 (GR c k (CU c (k:Int) false p++Cm p y55 (k:Int) false q).length)),(136,.agg (AP.arr y30))] rfl ⟨rfl,rfl,rfl,Af⟩ ?_
     refine BI 54 #[.agg (AP.arr y30)] (some 137) (i6 (portOf y30)) (fun w76 hw76=>Sj w76 y30 (he29.ext (hw76.ext rfl) (fun _ h=>h))) (fun n77 (hn78:n74≤n77) => ?_)
     refine Cc 5 0 [] [[(ov (i6 ((GR c k (CU c (k:Int) false p++Cm p y55 (k:Int) false q).length)+(portOf y30)))),o0],[(ov (i6 ((q+1:Nat):Int))),o0]] [Wr ((GR c k (CU c (k:Int) false p++Cm p y55 (k:Int) false q).length:Int)+(portOf y30)) ((GR c k (CU c (k:Int) false p++Cm p y55 (k:Int) false q).length)+(portOf y30)),Wr ((q:Int)+1) (((q+1:Nat):Int))] [(1,pt z),(6,Ac k),(EK n21),(8,Ac p),(Ed c),(61,Ac k),(EZ c),(94,Ac p),(Ih y55),(Nv q),(UQ c k y30 i p y55 q ax72 cp73),(4,i6 ((GR c k (CU c (k:Int) false p++Cm p y55 (k:Int) false q).length)+(portOf y30)))] rfl ⟨CB,CB,Af⟩ ?_
     refine BX [0,1,2,3,4,5,6] [(Ak w),(EC c z),(E5 c z),(Ci z 97 5 Bl.cells (.slice ax72 ((Fp c i++GV c k++[(⟨CE c k,2,(⟨6,(k:Int),0⟩:CJ)⟩:Bl)]++[(⟨CE c k+2,Bz y30,(⟨7,(k:Int),0⟩:CJ)⟩:Bl)]++Hr c k (CU c (k:Int) false p++Cm p y55 (k:Int) false q)++[(⟨GR c k (CU c (k:Int) false p++Cm p y55 (k:Int) false q).length,portOf y30,(⟨8,(p:Int),(q:Int)⟩:CJ)⟩:Bl)]).length) cp73) (Fp c i++GV c k++[(⟨CE c k,2,(⟨6,(k:Int),0⟩:CJ)⟩:Bl)]++[(⟨CE c k+2,Bz y30,(⟨7,(k:Int),0⟩:CJ)⟩:Bl)]++Hr c k (CU c (k:Int) false p++Cm p y55 (k:Int) false q)++[(⟨GR c k (CU c (k:Int) false p++Cm p y55 (k:Int) false q).length,portOf y30,(⟨8,(p:Int),(q:Int)⟩:CJ)⟩:Bl)])),(IC y30 n21),(IB c k n21),(IQ n36 c k y30)] rfl rfl ?_
     have hT:=NJ (p:=p) (x:=y55) (k:=(k:Int)) (b:=false) (j:=q) (by rw[←hy66];exact Vq (by omega) (by revert h68;cases y66.Source <;> simp))
     refine BR [1,3,4,6,7,8,60,61,93,94,103,104] [(1,pt z),(UQ c k y30 i p y55 q ax72 cp73),(4,i6 ((GR c k (CU c (k:Int) false p++Cm p y55 (k:Int) false q).length)+(portOf y30))),(6,Ac k),(EK n21),(8,Ac p),(Ed c),(61,Ac k),(EZ c),(94,Ac p),(Ih y55),(Nv q)] ?_
     refine Cf (fun a w' hs=>⟨y55.Ar.xs.length - (q+1),by omega,n77,(q+1),ax72,cp73,rfl,by omega,by omega,by(try dsimp only[IQ,IB,E5,IC,EC,PE,JR,Ig,UQ,V4,JJ,Ib,Jb,Ie,Gv,EZ,Ed,Ih,GG,Nv,EK,Nw]at hs ⊢);rw[hT,←List.append_assoc,YZ,←List.append_assoc,Tj,←hy30,show GR c k ((CU c (k:Int) false p++Cm p y55 (k:Int) false q)++[(⟨(p:Int),(q:Int)⟩:Fj)]).length=GR c k (CU c (k:Int) false p++Cm p y55 (k:Int) false q).length+portOf y30 from by rw[List.length_append,List.length_singleton,Yu,←hy30]];exact hs⟩)
    refine Az 9 0 [0] [[o0,(a1 7),o0,oF,o0,o0],[(ov (i6 ((q+1:Nat):Int))),o0]] [Qb n57,EF y66.Channel (k:Int),Wr ((q:Int)+1) (((q+1:Nat):Int))] [(1,pt z),(JJ c k y30 i aR3 p y55 q cR3),(Jb c k p y55 q),(6,Ac k),(EK n21),(8,Ac p),(Ed c),(61,Ac k),(EZ c),(94,Ac p),(Ih y55),(Nv q)] rfl ⟨rfl,ef,CB,Af⟩ ?_
    refine BX [0,1,2,3,4,5,6] (Nw n36 c k y30 i n21 z aR3 p y55 q cR3 w) rfl rfl ?_
    have hT:=JM (p:=p) (x:=y55) (k:=(k:Int)) (b:=false) (j:=q) (by rw[←hy66];exact UE (by omega))
    refine BR [1,3,4,6,7,8,60,61,93,94,103,104] [(1,pt z),(JJ c k y30 i aR3 p y55 q cR3),(Jb c k p y55 q),(6,Ac k),(EK n21),(8,Ac p),(Ed c),(61,Ac k),(EZ c),(94,Ac p),(Ih y55),(Nv q)] ?_
    refine Cf (fun a w' hs=>⟨y55.Ar.xs.length - (q+1),by omega,(n57+1),(q+1),aR3,cR3,rfl,by omega,by omega,by(try dsimp only[IQ,IB,E5,IC,EC,PE,JR,Ig,V4,JJ,Ib,Jb,Ie,Gv,EZ,Ed,Ih,GG,Nv,EK,Nw]at hs ⊢);rw[hT];exact hs⟩)
   refine Az 13 0 [0] [[oF],[(ov (i6 ((p+1:Nat):Int))),o0]] [BF ((q:Int)<(y55.Ar.xs.length:Int)),Wr ((p:Int)+1) (((p+1:Nat):Int))] [(1,pt z),(JJ c k y30 i aR3 p y55 q cR3),(Jb c k p y55 q),(6,Ac k),(EK n21),(Ed c),(61,Ac k),(EZ c),(94,i6 ((p+1:Nat):Int))] rfl ⟨bf,CB,Af⟩ ?_
   refine Cf (fun a w' hs=>⟨c.Aa.xs.length - (p+1),by omega,n57,(p+1),aR3,cR3,rfl,by omega,by omega,by(try dsimp only[IQ,IB,E5,IC,EC,PE,JR,Ig,JJ,Ib,Jb,Ie,Gv,EZ,Ed,Ih,GG,Nv,EK,Nw]at hs ⊢);rw[Kv,←hy55,show y55.Ar.xs.length=q by omega];exact hs⟩)
  refine Az 13 0 [0] [[oF],[(ov (i6 ((k+1:Nat):Int))),o0]] [BF ((p:Int)<(c.Aa.xs.length:Int)),Wr ((k:Int)+1) (((k+1:Nat):Int))] [(1,pt z),(Ib c k y30 i p aR2 cR2),(Ie c k p),(Ed c),(61,i6 ((k+1:Nat):Int))] rfl ⟨bf,CB,Af⟩ ?_
  refine BX [0,1,2,3] [(Ak w),(EC c z),(E5 c z),(JR c k y30 i z p aR2 cR2)] rfl rfl ?_
  refine BR [1,3,4,60,61] [(1,pt z),(Ib c k y30 i p aR2 cR2),(Ie c k p),(Ed c),(61,i6 ((k+1:Nat):Int))] ?_
  refine Cf (fun a w' hs=>⟨c.Ah.xs.length - (k+1),by omega,n46,(k+1),aR2,cR2,rfl,by omega,by omega,by(try dsimp only[IQ,IB,E5,IC,EC,PE,JR,Ig,JJ,Ib,Jb,Ie,Gv,EZ,Ed,Ih,GG,EK,Nw]at hs ⊢);rw[VO,SX,Zc,←hy30,show Jk c k=(CU c (k:Int) false p).length from by rw[show p=c.Aa.xs.length by omega];rfl,show BV c (k:Int) false=CU c (k:Int) false p from by rw[show p=c.Aa.xs.length by omega];rfl,←List.append_assoc,←List.append_assoc];simp only[List.append_assoc,List.cons_append,List.nil_append]at hs ⊢;exact hs⟩)
 refine Az 12 0 [0] [[oF]] [BF ((k:Int)<(c.Ah.xs.length:Int))] [(1,pt z),(GG c k i aR1 cR1),(4,i6 (CE c k)),(Ed c),(61,Ac k),(62,.bool false)] rfl ⟨bf,Af⟩ ?_
 have hkc:k=c.Ah.xs.length:=by omega
 have hfr:Nk c=(CE c k+16 - 1) / 16:=by rw[hkc];rfl
 refine Ee [1,3,4] [(1,pt z),(GG c k i aR1 cR1),(4,i6 (CE c k))] ?_
 refine DY (fun m a w'=>∃ (n80:Nat) (at8:Int),m=(16*Nk c - at8).toNat∧n21≤n80∧(CE c k≤at8∧at8≤16*Nk c)∧St 181 [(1,pt z),(GG c k i aR1 cR1),(4,i6 at8)] [] ⟨w,n80,[(Ak w),(EC c z),(E5 c z),(Ig c k i z aR1 cR1)]⟩ a w') ((16*Nk c - CE c k).toNat) ?_ ?_
 ·intro a w' hs;exact⟨n21,(CE c k),rfl,Nat.le_refl _,by omega,hs⟩
 rintro m a w' ⟨n80,at8,rfl,hn79,hat,hs⟩
 refine(?_:G Tryd.prog 181 [(1,pt z),(GG c k i aR1 cR1),(4,i6 at8)] [] ⟨w,n80,[(Ak w),(EC c z),(E5 c z),(Ig c k i z aR1 cR1)]⟩ _ _ _) a w' hs
 clear hs a w'
 refine DW <| DW ?_
 by_cases h81:(at8 % 16:Int)=0
 ·refine Az 15 0 [0] [[o0,(ov (i6 (at8 % 16))),oF],[o0,(a1 1),o0,o0]] [i6 (Int.tmod (at8) 16)=i6 (at8 % 16),NF (at8 % 16) 0,Qb z] [(1,pt z),(GG c k i aR1 cR1),(4,i6 at8),(FN c),(150,i6 0)] rfl ⟨congrArg (Value.int .i64) (ZK (by omega) (by omega)),nf,rfl,Af⟩ ?_
  refine DY (fun m a w'=>∃ (n83:Nat) (p:Nat) (aR5:Option Addr) (cR5:Nat),m=c.Aa.xs.length - p∧n80≤n83∧(p≤c.Aa.xs.length)∧St 181 [(1,pt z),(H9 c k i p aR5 cR5),(4,i6 (16*DD c p)),(FN c),(150,Ac p)] [] ⟨w,n83,[(Ak w),(EC c z),(E5 c z),(MB c k i z p aR5 cR5)]⟩ a w') (c.Aa.xs.length - 0) ?_ ?_
  ·intro a w' hs;exact⟨n80,0,aR1,cR1,rfl,Nat.le_refl _,Nat.zero_le _,by(try dsimp only[IQ,IB,E5,IC,EC,JR,MB,Ig,Ib,Ie,H9,FN,Gv,EZ,Ed,GG,EK]at hs ⊢);rw[show LK c 0=[]from rfl,List.append_nil,show 16*DD c 0=at8 from by rw[show DD c 0=Nk c from rfl];omega];exact hs⟩
  rintro m a w' ⟨n83,p,aR5,cR5,rfl,hn82,hkp,hs⟩
  refine(?_:G Tryd.prog 181 [(1,pt z),(H9 c k i p aR5 cR5),(4,i6 (16*DD c p)),(FN c),(150,Ac p)] [] ⟨w,n83,[(Ak w),(EC c z),(E5 c z),(MB c k i z p aR5 cR5)]⟩ _ _ _) a w' hs
  clear hs a w'
  have htb:=Ql hfine p (by omega)
  have hlt:=Xu (c:=c) p
  refine DW ?_
  by_cases h84:(p:Int)<(c.Aa.xs.length:Int)
  ·refine Az 23 0 [1] [[oT],[o0,o0],[o0],[o0]] [BT ((p:Int)<(c.Aa.xs.length:Int))] [(1,pt z),(H9 c k i p aR5 cR5),(4,i6 (16*DD c p)),(11,Ac p),(12,i6 1),(FN c),(150,Ac p),(153,i6 0)] rfl ⟨bt,Af⟩ ?_
   refine DY (fun m a w'=>∃ (n86:Nat) (t:Nat),m=16 - t∧n83≤n86∧(t≤16)∧St 181 [(1,pt z),(H9 c k i p aR5 cR5),(4,i6 (16*DD c p)),(11,Ac p),(Kz c p t),(FN c),(150,Ac p),(153,Ac t)] [] ⟨w,n86,[(Ak w),(EC c z),(E5 c z),(MB c k i z p aR5 cR5)]⟩ a w') (16 - 0) ?_ ?_
   ·intro a w' hs;exact⟨n83,0,rfl,Nat.le_refl _,Nat.zero_le _,hs⟩
   rintro m a w' ⟨n86,t,rfl,hn85,hkt,hs⟩
   refine(?_:G Tryd.prog 181 [(1,pt z),(H9 c k i p aR5 cR5),(4,i6 (16*DD c p)),(11,Ac p),(Kz c p t),(FN c),(150,Ac p),(153,Ac t)] [] ⟨w,n86,[(Ak w),(EC c z),(E5 c z),(MB c k i z p aR5 cR5)]⟩ _ _ _) a w' hs
   clear hs a w'
   have hcl:(List.range t).countP (fun b=>GL (gd c.Aa.xs p) b)≤t:=Nat.le_trans List.countP_le_length (by simp)
   refine DW ?_
   by_cases h87:(t:Int)<16
   ·refine Az 14 0 [1] [[oT],[o0,o0]] [BT ((t:Int)<16)] [(1,pt z),(H9 c k i p aR5 cR5),(4,i6 (16*DD c p)),(11,Ac p),(Kz c p t),(FN c),(150,Ac p),(153,Ac t),(13,Ac t)] rfl ⟨bt,Af⟩ ?_
    obtain⟨b88,o89,ha90,hF92,hc91⟩:=(hc.Aa).1.all (show 0<c.Aa.xs.length by omega)
    replace ha90:c.Aa.a=some ⟨b88,o89,none⟩:=ha90
    have hc93:=hc91 p (show p<c.Aa.xs.length by omega)
    have he94:=(hc.Aa).2 p (show p<c.Aa.xs.length by omega)
    obtain⟨y95,hy95⟩:∃ y_,y_=gd c.Aa.xs p:=⟨_,rfl⟩
    rw[←hy95]at he94 hc93
    have h8p:=h8 p (by omega);rw[←hy95]at h8p
    refine Az 1 6 [] [[o0,(Gy 1 b88 o89 c.Aa),o0,(oi p),(ol 0 (Aq.arr y95)),o0]] [Qb z,FO b88 o89 c.Aa,DJ p,p<c.Aa.xs.length,Di,He w b88 (o89+p*8) (Aq.arr y95)] [(1,pt z),(H9 c k i p aR5 cR5),(4,i6 (16*DD c p)),(11,Ac p),(Kz c p t),(FN c),(150,Ac p),(153,Ac t),(160,.agg (Aq.arr y95)),(161,Ac t)] rfl ⟨rfl,FP ha90,rfl,(by omega),rfl,EH hc93,Af⟩ ?_
    refine BI 57 #[.agg (Aq.arr y95),Ac t] (some 162) (.bool (GL y95 t)) (fun w96 hw96=>Ym w96 y95 t (by omega) (he94.ext (hw96.ext rfl) (fun _ h=>h)) (XO (by rw[hy95];exact hfine.parts p (by omega)))) (fun n97 (hn98:n86≤n97) => ?_)
    refine DZ [1,3,4,11,12,149,150,153,162] [(1,pt z),(H9 c k i p aR5 cR5),(4,i6 (16*DD c p)),(11,Ac p),(Kz c p t),(FN c),(150,Ac p),(153,Ac t),(162,.bool (GL y95 t))] ?_
    refine ZT (by kernel_rfl) ?_
    refine IV ?_
    by_cases h99:(GL y95 t)=true
    ·refine Az 7 0 [3] [[o0,(ov (i6 (((1+(List.range t).countP (fun b=>GL (gd c.Aa.xs p) b))+1:Nat):Int))),o0],[(ov (i6 ((t+1:Nat):Int))),o0]] [Value.bool (GL y95 t)=Value.bool true,Wr ((((1+(List.range t).countP (fun b=>GL (gd c.Aa.xs p) b):Nat):Int):Int)+1) ((((1+(List.range t).countP (fun b=>GL (gd c.Aa.xs p) b))+1:Nat):Int)),Wr ((t:Int)+1) (((t+1:Nat):Int))] [(1,pt z),(H9 c k i p aR5 cR5),(4,i6 (16*DD c p)),(11,Ac p),(Tt c p t),(FN c),(150,Ac p),(153,i6 ((t+1:Nat):Int))] rfl ⟨(congrArg Value.bool h99),CB,CB,Af⟩ ?_
     have hT:=RV (p:=fun b=>GL (gd c.Aa.xs p) b) (j:=t)
     rw[←hy95]at hT
     simp only[h99,if_true,if_false,Nat.add_zero]at hT
     refine BR [1,3,4,11,12,149,150,153] [(1,pt z),(H9 c k i p aR5 cR5),(4,i6 (16*DD c p)),(11,Ac p),(Tt c p t),(FN c),(150,Ac p),(153,i6 ((t+1:Nat):Int))] ?_
     refine Cf (fun a w' hs=>⟨16 - (t+1),by omega,n97,(t+1),rfl,by omega,by omega,by(try dsimp only[IQ,IB,E5,IC,EC,JR,MB,Ig,Ib,Tt,Kz,Ie,H9,FN,Gv,EZ,Ed,GG,EK]at hs ⊢);rw[←hy95]at hs ⊢;rw[hT];exact hs⟩)
    refine Az 6 0 [2] [[(ov (i6 ((t+1:Nat):Int))),o0]] [Value.bool (GL y95 t)=Value.bool false,Wr ((t:Int)+1) (((t+1:Nat):Int))] [(1,pt z),(H9 c k i p aR5 cR5),(4,i6 (16*DD c p)),(11,Ac p),(Kz c p t),(FN c),(150,Ac p),(153,i6 ((t+1:Nat):Int))] rfl ⟨(congrArg Value.bool (Bool.eq_false_iff.2 h99)),CB,Af⟩ ?_
    have hT:=RV (p:=fun b=>GL (gd c.Aa.xs p) b) (j:=t)
    rw[←hy95]at hT
    simp only[(Bool.eq_false_iff.2 h99),Bool.false_eq_true,if_true,if_false,Nat.add_zero]at hT
    refine BR [1,3,4,11,12,149,150,153] [(1,pt z),(H9 c k i p aR5 cR5),(4,i6 (16*DD c p)),(11,Ac p),(Kz c p t),(FN c),(150,Ac p),(153,i6 ((t+1:Nat):Int))] ?_
    refine Cf (fun a w' hs=>⟨16 - (t+1),by omega,n97,(t+1),rfl,by omega,by omega,by(try dsimp only[IQ,IB,E5,IC,EC,JR,MB,Ig,Ib,Tt,Kz,Ie,H9,FN,Gv,EZ,Ed,GG,EK]at hs ⊢);rw[←hy95]at hs ⊢;rw[hT];exact hs⟩)
   refine Az 15 0 [0] [[oF],[o0,o0]] [BF ((t:Int)<16)] [(1,pt z),(H9 c k i p aR5 cR5),(4,i6 (16*DD c p)),(11,Ac p),(FN c),(150,Ac p),(NV c p t),(167,i6 0)] rfl ⟨bf,Af⟩ ?_
   refine DY (fun m a w'=>∃ (n101:Nat) (u:Nat) (aR7:Option Addr) (cR7:Nat),m=(1+(List.range t).countP (fun b=>GL (gd c.Aa.xs p) b)) - u∧n86≤n101∧(u≤(1+(List.range t).countP (fun b=>GL (gd c.Aa.xs p) b)))∧St 181 [(1,pt z),(3,.slice aR7 ((Fp c i++GV c k++LK c p++Hy c p u).length) cR7),(O8 c p u),(11,Ac p),(FN c),(150,Ac p),(NV c p t),(167,Ac u)] [] ⟨w,n101,[(Ak w),(EC c z),(E5 c z),(TB c k i z p aR7 u cR7)]⟩ a w') ((1+(List.range t).countP (fun b=>GL (gd c.Aa.xs p) b)) - 0) ?_ ?_
   ·intro a w' hs;exact⟨n86,0,aR5,cR5,rfl,Nat.le_refl _,Nat.zero_le _,by(try dsimp only[IQ,IB,E5,IC,EC,JR,TB,MB,Ig,Ib,Tt,NV,Kz,Ie,H9,FN,Gv,EZ,Ed,GG,O8,EK]at hs ⊢);rw[show Hy c p 0=[]from rfl,List.append_nil,show 16*(DD c p+((0:Nat):Int))=16*DD c p from by omega];exact hs⟩
   rintro m a w' ⟨n101,u,aR7,cR7,rfl,hn100,hku,hs⟩
   refine(?_:G Tryd.prog 181 [(1,pt z),(3,.slice aR7 ((Fp c i++GV c k++LK c p++Hy c p u).length) cR7),(O8 c p u),(11,Ac p),(FN c),(150,Ac p),(NV c p t),(167,Ac u)] [] ⟨w,n101,[(Ak w),(EC c z),(E5 c z),(TB c k i z p aR7 u cR7)]⟩ _ _ _) a w' hs
   clear hs a w'
   have hlu:=WQ (c:=c) (p:=p) (n:=u)
   refine DW ?_
   by_cases h102:(u:Int)<((1+(List.range t).countP (fun b=>GL (gd c.Aa.xs p) b):Nat):Int)
   ·refine q_c 11 6 [1] [[oT],[o0,o0,o0,o0,o0,o0]] [BT ((u:Int)<((1+(List.range t).countP (fun b=>GL (gd c.Aa.xs p) b):Nat):Int))] [(1,pt z),(O8 c p u),(11,Ac p),(FN c),(150,Ac p),(NV c p t),(167,Ac u),(169,.slice aR7 ((Fp c i++GV c k++LK c p++Hy c p u).length) cR7),(174,.slice (some ⟨n101,0,none⟩) 1 1)] ⟨w,n101+1,[(Ak w),(EC c z),(E5 c z),(TB c k i z p aR7 u cR7),(bk n101 #[i6 (16*(DD c p+(u:Int))),i6 16,i6 9,Ac p,i6 0] 97)]⟩ rfl ⟨bt,Af⟩ ?_
    refine MO z 3 4 (Fp c i++GV c k++LK c p++Hy c p u) [(⟨16*(DD c p+(u:Int)),16,(⟨9,(p:Int),0⟩:CJ)⟩:Bl)] Bl.cells 97 5 40 (.slice aR7 ((Fp c i++GV c k++LK c p++Hy c p u).length) cR7) n101 1 1 #[i6 (16*(DD c p+(u:Int))),i6 16,i6 9,Ac p,i6 0] 97 (0,0) true (some 175) (by simp only[List.length_cons,List.length_nil,List.length_append];omega) (show z≤n101+1 by omega) (fun ax103 cp104 n105 (hn106:n101+1≤n105) => ?_)
    refine Cc 8 0 [] [[o0],[o0,(ov (i6 ((16*(DD c p+(u:Int)))+16))),o0],[(ov (i6 ((u+1:Nat):Int))),o0]] [Wr ((16*(DD c p+(u:Int)):Int)+16) ((16*(DD c p+(u:Int)))+16),Wr ((u:Int)+1) (((u+1:Nat):Int))] [(1,pt z),(4,i6 ((16*(DD c p+(u:Int)))+16)),(11,Ac p),(FN c),(150,Ac p),(NV c p t),(167,i6 ((u+1:Nat):Int)),(3,.slice ax103 ((Fp c i++GV c k++LK c p++Hy c p u++[(⟨16*(DD c p+(u:Int)),16,(⟨9,(p:Int),0⟩:CJ)⟩:Bl)]).length) cp104)] rfl ⟨CB,CB,Af⟩ ?_
    refine BX [0,1,2,3] [(Ak w),(EC c z),(E5 c z),(Ci z 97 5 Bl.cells (.slice ax103 ((Fp c i++GV c k++LK c p++Hy c p u++[(⟨16*(DD c p+(u:Int)),16,(⟨9,(p:Int),0⟩:CJ)⟩:Bl)]).length) cp104) (Fp c i++GV c k++LK c p++Hy c p u++[(⟨16*(DD c p+(u:Int)),16,(⟨9,(p:Int),0⟩:CJ)⟩:Bl)]))] rfl rfl ?_
    refine BR [1,3,4,11,149,150,166,167] [(1,pt z),(3,.slice ax103 ((Fp c i++GV c k++LK c p++Hy c p u++[(⟨16*(DD c p+(u:Int)),16,(⟨9,(p:Int),0⟩:CJ)⟩:Bl)]).length) cp104),(4,i6 ((16*(DD c p+(u:Int)))+16)),(11,Ac p),(FN c),(150,Ac p),(NV c p t),(167,i6 ((u+1:Nat):Int))] ?_
    refine Cf (fun a w' hs=>⟨(1+(List.range t).countP (fun b=>GL (gd c.Aa.xs p) b)) - (u+1),by omega,n105,(u+1),ax103,cp104,rfl,by omega,by omega,by(try dsimp only[IQ,IB,E5,IC,EC,JR,TB,MB,Ig,Ib,NV,Kz,Ie,H9,FN,Gv,EZ,Ed,GG,O8,EK]at hs ⊢);rw[Sz,←List.append_assoc,show 16*(DD c p+((u+1:Nat):Int))=(16*(DD c p+(u:Int)))+16 from by omega];exact hs⟩)
   refine Az 13 0 [0] [[oF],[(ov (i6 ((p+1:Nat):Int))),o0]] [BF ((u:Int)<((1+(List.range t).countP (fun b=>GL (gd c.Aa.xs p) b):Nat):Int)),Wr ((p:Int)+1) (((p+1:Nat):Int))] [(1,pt z),(3,.slice aR7 ((Fp c i++GV c k++LK c p++Hy c p u).length) cR7),(O8 c p u),(FN c),(150,i6 ((p+1:Nat):Int))] rfl ⟨bf,CB,Af⟩ ?_
   have hnn:1+Iu (gd c.Aa.xs p)=u:=by rw[←Zl (XO (hfine.parts p (by omega))),show 16=t by omega];omega
   refine BR [1,3,4,149,150] [(1,pt z),(3,.slice aR7 ((Fp c i++GV c k++LK c p++Hy c p u).length) cR7),(O8 c p u),(FN c),(150,i6 ((p+1:Nat):Int))] ?_
   refine Cf (fun a w' hs=>⟨c.Aa.xs.length - (p+1),by omega,n101,(p+1),aR7,cR7,rfl,by omega,by omega,by(try dsimp only[IQ,IB,E5,IC,EC,JR,TB,MB,Ig,Ib,NV,Kz,Ie,H9,FN,Gv,EZ,Ed,GG,O8,EK]at hs ⊢);rw[VK,hnn,←List.append_assoc,show 16*DD c (p+1)=16*(DD c p+(u:Int))from by rw[TQ];omega];exact hs⟩)
  refine Az 15 0 [0] [[oF],[o0,o0]] [BF ((p:Int)<(c.Aa.xs.length:Int))] [(2,.slice aR5 ((Fp c i++GV c k++LK c p).length) cR5)] rfl ⟨bf,Af⟩ ?_
  refine AO [] [] (.slice aR5 ((Fp c i++GV c k++LK c p).length) cR5) Af ?_
  intro w107 hw107
  have hpo:Fp c i++GV c k++LK c p=CP c:=by rw[show i=c.Aa.xs.length by omega,show k=c.Ah.xs.length by omega,show p=c.Aa.xs.length by omega];rfl
  have hrow:=hw107.at (i:=3) rfl
  (try dsimp only[IQ,IB,E5,IC,EC,JR,MB,Ig,Ib,Kz,Ie,H9,FN,Gv,EZ,Ed,GG,EK]at hrow)
  rw[hpo]at hrow ⊢
  exact⟨_,_,rfl,hz ▸ Qp (fun _=>rfl) hrow (by have:=pieces_len hfine;omega),Bi hw107⟩
 refine Az 10 0 [1] [[o0,(ov (i6 (at8 % 16))),oT],[o0,(ov (i6 (at8+1))),o0]] [i6 (Int.tmod (at8) 16)=i6 (at8 % 16),NT (at8 % 16) 0,Wr ((at8:Int)+1) (at8+1)] [(1,pt z),(GG c k i aR1 cR1),(4,i6 (at8+1))] rfl ⟨congrArg (Value.int .i64) (ZK (by omega) (by omega)),nt,CB,Af⟩ ?_
 refine Cf (fun a w' hs=>⟨(16*Nk c - (at8+1)).toNat,by omega,n80,(at8+1),rfl,by omega,by omega,hs⟩)
def nP(p:Ap):Ap:={ p with Tables:=⟨none,0,p.Tables.xs⟩ }
def nC(p:Au):Au:={ p with Dw:=⟨none,0,p.Dw.xs⟩ }
structure Fold where
 bar:Int
 ps:List Ap
 cs:List Au
 ch:Int
 fin:Int
def RN(p:Ap)(at_:Int):Ap:=if p.Root=0 then{ p with Root:=at_ / 16 }else{ p with Tables:=⟨none,0,p.Tables.xs++[at_ / 16]⟩ }
def Zan(p:Au)(y:Bl):Au:={ p with Dw:=⟨none,0,p.Dw.xs++[⟨y.A8.Index,y.A8.Port,y.At⟩]⟩ }
def H5(F:Fold)(y:Bl):Fold :=
 if y.A8.Kind=2 then{ F with bar:=y.At,fin:=y.At+y.Size }
 else if y.A8.Kind=3 then{ F with ps:=F.ps.set y.A8.Index.toNat { gd F.ps y.A8.Index.toNat with Lock:=y.At },fin:=y.At+y.Size }
 else if y.A8.Kind=4 then{ F with ps:=F.ps.set y.A8.Index.toNat { gd F.ps y.A8.Index.toNat with MM:=y.At },fin:=y.At+y.Size }
 else if y.A8.Kind=5 then{ F with ps:=F.ps.set y.A8.Index.toNat { gd F.ps y.A8.Index.toNat with State:=y.At },fin:=y.At+y.Size }
 else if y.A8.Kind=6 then{ F with cs:=F.cs.set y.A8.Index.toNat { gd F.cs y.A8.Index.toNat with Lock:=y.At },ch:=y.A8.Index,fin:=y.At+y.Size }
 else if y.A8.Kind=7 then{ F with cs:=F.cs.set y.A8.Index.toNat { gd F.cs y.A8.Index.toNat with NC:=y.At },fin:=y.At+y.Size }
 else if y.A8.Kind=8 then{ F with cs:=F.cs.set F.ch.toNat (Zan (gd F.cs F.ch.toNat) y),fin:=y.At+y.Size }
 else{ F with ps:=F.ps.set y.A8.Index.toNat (RN (gd F.ps y.A8.Index.toNat) y.At),fin:=y.At+y.Size }
def Qz(c:Aj)(k:Nat):Au:=⟨0,0,(gd (BV c (k:Int) true) 0).partition,(gd (BV c (k:Int) true) 0).port,⟨none,0,[]⟩⟩
def F0(c:Aj):Fold:=⟨0,(List.range c.Aa.xs.length).map (fun _=>⟨0,0,0,0,⟨none,0,[]⟩⟩),(List.range c.Ah.xs.length).map (Qz c),0,16*c.Kernel⟩
theorem map_set{α:Type}{n k:Nat}{f g:Nat→α}{v:α}(h1:g k=v)(h2:∀ q,q≠k→g q=f q):((List.range n).map f).set k v=(List.range n).map g:=by
 apply List.ext_getElem (by simp)
 intro i hi hi'
 rw[List.getElem_set]
 simp only[List.getElem_map,List.getElem_range]
 split
 ·rename_i e;subst e;exact h1.symm
 rename_i e;exact(h2 i (fun x=>e x.symm)).symm
theorem Tf{α:Type}[Inhabited α]{n k:Nat}{f:Nat→α}(hk:k<n):gd ((List.range n).map f) k=f k:=by rw[F8 (by simpa using hk)];simp
def VF(c:Aj)(i:Nat):Nat→Ap:=fun p=>if p<i then Og c p else⟨0,0,0,0,⟨none,0,[]⟩⟩
theorem foldP(c:Aj):∀ (i:Nat),i≤c.Aa.xs.length→∃ fin,(Fp c i).foldl H5 (F0 c)=⟨16*c.Kernel,(List.range c.Aa.xs.length).map (VF c i),(F0 c).cs,0,fin⟩∧(i=0→fin=16*c.Kernel+2)
 | 0,_=>⟨16*c.Kernel+2,rfl,fun _=>rfl⟩
 | i+1,h=>by
  obtain⟨fin,e, -⟩:=foldP c i (by omega)
  refine⟨CG c i+2+17+5, ?_,fun h=>by omega⟩
  rw[VQ,List.foldl_append,List.foldl_append,List.foldl_append,e]
  have hl:i<((List.range c.Aa.xs.length).map (VF c i)).length:=by simp;omega
  have hg:gd ((List.range c.Aa.xs.length).map (VF c i)) i=⟨0,0,0,0,⟨none,0,[]⟩⟩:=by rw[Tf (by omega)];simp[VF]
  simp only[List.foldl_cons,List.foldl_nil,H5,Int.toNat_natCast]
  simp only[if_true,if_false,reduceIte,show ¬ ((3:Int)=2)by decide,show ¬ ((4:Int)=2)by decide,show ¬ ((4:Int)=3)by decide,show ¬ ((5:Int)=2)by decide,show ¬ ((5:Int)=3)by decide,show ¬ ((5:Int)=4)by decide]
  rw[hg,LU hl,List.set_set,LU (by simpa using hl),List.set_set]
  rw[map_set (g:=VF c (i+1)) (by simp[VF,Og]) (fun q hq=>by unfold VF;by_cases e:q<i <;> simp[e,show(q<i+1)=(q<i∨q=i)by apply propext;omega,hq])]
theorem XY(c:Aj)(k:Nat)(b:Int)(ps:List Ap)(cs:List Au)(hk:k<cs.length)(hc0:(gd cs k).Dw=⟨none,0,[]⟩)(fin:Int)(l:List Fj)(hl:∀ j,j<l.length→gd l j=gd (BV c (k:Int) false) j):∀ (j:Nat),j≤l.length→∃ fin',((List.range j).map (fun j=>Tj c k (gd l j) j)).foldl H5 ⟨b,ps,cs,(k:Int),fin⟩=⟨b,ps,cs.set k { gd cs k with Dw:=⟨none,0,EJ c k j⟩ },(k:Int),fin'⟩
 | 0,_=>⟨fin,by
  show _=(⟨b,ps,cs.set k { gd cs k with Dw:=⟨none,0,[]⟩ },(k:Int),fin⟩:Fold)
  rw[←hc0,show({ gd cs k with Dw:=(gd cs k).Dw }:Au)=gd cs k from rfl,F8 hk,List.set_getElem_self];rfl⟩
 | j+1,h=>by
  obtain⟨fin',e⟩:=XY c k b ps cs hk hc0 fin l hl j (by omega)
  refine⟨GR c k j+portOf (gd c.Ah.xs k), ?_⟩
  rw[List.range_succ,List.map_append,List.foldl_append,e]
  simp only[List.map_cons,List.map_nil,List.foldl_cons,List.foldl_nil,H5,Tj,Int.toNat_natCast]
  simp only[if_true,if_false,reduceIte,show ¬ ((8:Int)=2)by decide,show ¬ ((8:Int)=3)by decide,show ¬ ((8:Int)=4)by decide,show ¬ ((8:Int)=5)by decide,show ¬ ((8:Int)=6)by decide,show ¬ ((8:Int)=7)by decide]
  rw[LU hk,List.set_set,Zan,Uu,hl j (by omega)]
  rfl
def Uf(c:Aj)(k:Nat):Nat→Au:=fun q=>if q<k then IR c q ⟨none,0,EJ c q (Jk c q)⟩else Qz c q
theorem foldC(c:Aj)(b:Int)(ps:List Ap)(fin:Int):∀ (k:Nat),k≤c.Ah.xs.length→∃ ch fin',(GV c k).foldl H5 ⟨b,ps,(F0 c).cs,0,fin⟩=⟨b,ps,(List.range c.Ah.xs.length).map (Uf c k),ch,fin'⟩∧(k=0→fin'=fin)
 | 0,_=>⟨0,fin,rfl,fun _=>rfl⟩
 | k+1,h=>by
  obtain⟨ch,fin',e, -⟩:=foldC c b ps fin k (by omega)
  have hg:gd ((List.range c.Ah.xs.length).map (Uf c k)) k=Qz c k:=by rw[Tf (by omega)];simp[Uf]
  have hl:k<((List.range c.Ah.xs.length).map (Uf c k)).length:=by simp;omega
  rw[VO,List.foldl_append,e,SX,List.foldl_append]
  simp only[List.foldl_cons,List.foldl_nil,H5,Int.toNat_natCast]
  simp only[if_true,if_false,reduceIte,show ¬ ((6:Int)=2)by decide,show ¬ ((6:Int)=3)by decide,show ¬ ((6:Int)=4)by decide,show ¬ ((6:Int)=5)by decide,show ¬ ((7:Int)=2)by decide,show ¬ ((7:Int)=3)by decide,show ¬ ((7:Int)=4)by decide,show ¬ ((7:Int)=5)by decide,show ¬ ((7:Int)=6)by decide]
  rw[hg,LU hl,List.set_set]
  obtain⟨fin'',e2⟩:=XY c k b ps (((List.range c.Ah.xs.length).map (Uf c k)).set k { Qz c k with Lock:=CE c k,NC:=CE c k+2 }) (by simpa using hl) (by rw[LU hl];rfl) (CE c k+2+Bz (gd c.Ah.xs k)) (BV c (k:Int) false) (fun j hj=>rfl) (BV c (k:Int) false).length (Nat.le_refl _)
  refine⟨(k:Int),fin'', ?_,fun h=>by omega⟩
  rw[Hr,e2,LU hl,List.set_set,map_set (g:=Uf c (k+1)) (by simp only[Uf,Nat.lt_succ_self,if_true];rfl) (fun q hq=>by unfold Uf;by_cases e:q<k <;> simp[e,show(q<k+1)=(q<k∨q=k)by apply propext;omega,hq])]
theorem XA{c:Aj}(hf:Fine c):∀ (p:Nat),1≤DD c p
 | 0=>by
  have h1:=(Rz hf _ (Nat.le_refl _)).1
  have h2:=hf.kn
  show 1≤Nk c
  unfold Nk
  unfold CG at h1
  omega
 | p+1=>by have:=XA hf p;rw[TQ];omega
theorem YR(c:Aj)(hf:Fine c)(p:Nat)(b ch fin:Int)(ps:List Ap)(cs:List Au)(hp:p<ps.length)(h0:gd ps p=Og c p):∀ (u:Nat),(Hy c p (u+1)).foldl H5 ⟨b,ps,cs,ch,fin⟩=⟨b,ps.set p (FH c p ⟨none,0,EU c p u⟩),cs,ch,16*(DD c p+(u:Int))+16⟩
 | 0=>by
  rw[Sz]
  simp only[Hy,List.range_zero,List.map_nil,List.nil_append,List.foldl_cons,List.foldl_nil,H5,Int.toNat_natCast]
  simp only[if_true,if_false,reduceIte,show ¬ ((9:Int)=2)by decide,show ¬ ((9:Int)=3)by decide,show ¬ ((9:Int)=4)by decide,show ¬ ((9:Int)=5)by decide,show ¬ ((9:Int)=6)by decide,show ¬ ((9:Int)=7)by decide,show ¬ ((9:Int)=8)by decide]
  rw[h0]
  have:RN (Og c p) (16*(DD c p+((0:Nat):Int)))=FH c p ⟨none,0,EU c p 0⟩:=by
   unfold RN
   rw[if_pos (show(Og c p).Root=0 from rfl)]
   show(⟨CG c p,CG c p+2,CG c p+2+17,_,⟨none,0,[]⟩⟩:Ap)=_
   rw[show 16*(DD c p+((0:Nat):Int)) / 16=DD c p by omega];rfl
  rw[this]
 | u+1=>by
  have ht:=XA hf p
  rw[Sz,List.foldl_append,YR c hf p b ch fin ps cs hp h0 u]
  simp only[List.foldl_cons,List.foldl_nil,H5,Int.toNat_natCast]
  simp only[if_true,if_false,reduceIte,show ¬ ((9:Int)=2)by decide,show ¬ ((9:Int)=3)by decide,show ¬ ((9:Int)=4)by decide,show ¬ ((9:Int)=5)by decide,show ¬ ((9:Int)=6)by decide,show ¬ ((9:Int)=7)by decide,show ¬ ((9:Int)=8)by decide]
  rw[LU hp,List.set_set]
  have:RN (FH c p ⟨none,0,EU c p u⟩) (16*(DD c p+((u+1:Nat):Int)))=FH c p ⟨none,0,EU c p (u+1)⟩:=by
   unfold RN
   rw[if_neg (show ¬ (FH c p ⟨none,0,EU c p u⟩).Root=0 by show ¬ DD c p=0;omega)]
   rw[VE]
   show(⟨CG c p,CG c p+2,CG c p+2+17,DD c p,⟨none,0,EU c p u++[_]⟩⟩:Ap)=_
   rw[show 16*(DD c p+((u+1:Nat):Int)) / 16=DD c p+1+(u:Int)by omega];rfl
  rw[this]
def psT(c:Aj)(i:Nat):Nat→Ap:=fun p=>if p<i then FH c p ⟨none,0,EU c p (Iu (gd c.Aa.xs p))⟩else Og c p
theorem foldT(c:Aj)(hf:Fine c)(b ch fin:Int)(cs:List Au):∀ (i:Nat),i≤c.Aa.xs.length→∃ fin',(LK c i).foldl H5 ⟨b,(List.range c.Aa.xs.length).map (psT c 0),cs,ch,fin⟩=⟨b,(List.range c.Aa.xs.length).map (psT c i),cs,ch,fin'⟩∧(i=0→fin'=fin)∧(0<i→fin'=16*DD c i)
 | 0,_=>⟨fin,rfl,fun _=>rfl,fun h=>by omega⟩
 | i+1,h=>by
  obtain⟨fin',e, -, -⟩:=foldT c hf b ch fin cs i (by omega)
  have hl:i<((List.range c.Aa.xs.length).map (psT c i)).length:=by simp;omega
  refine⟨16*(DD c i+((Iu (gd c.Aa.xs i):Nat):Int))+16, ?_,fun h=>by omega,fun _ => ?_⟩
  ·rw[VK,List.foldl_append,e,Nat.add_comm 1 (Iu (gd c.Aa.xs i)),YR c hf i b ch fin' _ cs hl (by rw[Tf (by omega)];simp[psT])]
   rw[map_set (g:=psT c (i+1)) (by simp[psT]) (fun q hq=>by unfold psT;by_cases e:q<i <;> simp[e,show(q<i+1)=(q<i∨q=i)by apply propext;omega,hq])]
  rw[TQ];omega
theorem fold_all(c:Aj)(hf:Fine c):∃ ch fin,(CP c).foldl H5 (F0 c)=⟨16*c.Kernel,(List.range c.Aa.xs.length).map (psT c c.Aa.xs.length),(List.range c.Ah.xs.length).map (Uf c c.Ah.xs.length),ch,fin⟩∧(fin+16 - 1) / 16=DD c c.Aa.xs.length:=by
 obtain⟨f1,e1,g1⟩:=foldP c _ (Nat.le_refl _)
 obtain⟨ch,f2,e2,g2⟩:=foldC c (16*c.Kernel) ((List.range c.Aa.xs.length).map (VF c c.Aa.xs.length)) f1 _ (Nat.le_refl _)
 have hpt:(List.range c.Aa.xs.length).map (VF c c.Aa.xs.length)=(List.range c.Aa.xs.length).map (psT c 0):=List.map_congr_left fun p hp=>by simp[VF,psT,List.mem_range.1 hp]
 obtain⟨f3,e3,g3,g4⟩:=foldT c hf (16*c.Kernel) ch f2 ((List.range c.Ah.xs.length).map (Uf c c.Ah.xs.length)) _ (Nat.le_refl _)
 refine⟨ch,f3, ?_, ?_⟩
 ·unfold CP
  rw[List.foldl_append,List.foldl_append,e1,e2,hpt,e3]
 by_cases h0:c.Aa.xs.length=0
 ·have hc0:c.Ah.xs.length=0:=by
   rcases Nat.eq_zero_or_pos c.Ah.xs.length with h | h
   ·exact h
   exfalso
   have:=(hf.UX h).1
   rw[P7]at this
   unfold Iw Fh at this
   rw[h0]at this
   simp at this
  have a1:=g1 h0;have a2:=g2 hc0;have a3:=g3 h0
  rw[h0,show DD c 0=(CE c c.Ah.xs.length+16 - 1) / 16 from rfl,hc0,show CE c 0=CG c c.Aa.xs.length from rfl,h0,show CG c 0=c.Kernel*16+2+24*((0:Nat):Int)from rfl]
  omega
 have a4:=g4 (by omega)
 omega
theorem KY{α β:Type}[Inhabited α][Inhabited β]{f:α→β}{xs:List α}{n:Nat}(h:n<xs.length):gd (xs.map f) n=f (gd xs n):=by rw[F8 (by simpa using h),F8 h];simp
theorem PX{α β:Type}[Inhabited α]{f:α→β}{xs:List α}{n:Nat}{T:α}(hn:n<xs.length)(h:f T=f (gd xs n)):(xs.set n T).map f=xs.map f:=by
 rw[List.map_set,h,F8 hn,←List.getElem_map (f:=f) (h:=by simpa using hn),List.set_getElem_self]
def BK(c:Aj)(m:Nat):Fold:=((CP c).take m).foldl H5 (F0 c)
theorem IP{c:Aj}{m:Nat}(h:m<(CP c).length):BK c (m+1)=H5 (BK c m) (gd (CP c) m):=by
 unfold BK;rw[take_snoc h,List.foldl_append];rfl
def U7(c:Aj)(y:Bl):Prop:=2≤y.A8.Kind∧y.A8.Kind≤9∧0≤y.At∧y.At≤200000∧0≤y.Size∧y.Size≤1000∧0≤y.A8.Index∧y.A8.Index≤1000∧0≤y.A8.Port∧y.A8.Port≤1000 ∧
 ((y.A8.Kind=3∨y.A8.Kind=4∨y.A8.Kind=5∨y.A8.Kind=9)→y.A8.Index<(c.Aa.xs.length:Int))∧((y.A8.Kind=6∨y.A8.Kind=7)→y.A8.Index<(c.Ah.xs.length:Int))∧(y.A8.Kind=8→1≤c.Ah.xs.length)
theorem pc_mem{c:Aj}(hf:Fine c):∀ y∈CP c,U7 c y:=by
 have hkn:=hf.kn;have hpn:=hf.pn;have hcn:=hf.cn
 intro y hy
 unfold CP at hy
 rw[List.mem_append,List.mem_append]at hy
 rcases hy with(hy | hy) | hy
 ·unfold Fp at hy
  rw[List.mem_append]at hy
  rcases hy with hy | hy
  ·simp only[List.mem_singleton]at hy;subst hy;unfold U7;simp only;omega
  simp only[List.mem_flatMap,List.mem_range]at hy
  obtain⟨i,hi,hy⟩:=hy
  simp only[YK,List.mem_cons,List.not_mem_nil,or_false]at hy
  have hp:CG c i=c.Kernel*16+2+24*(i:Int):=rfl
  rcases hy with rfl | rfl | rfl <;> (unfold U7;simp only;omega)
 ·simp only[GV,List.mem_flatMap,List.mem_range]at hy
  obtain⟨k,hk,hy⟩:=hy
  have hb:=Rz hf k (by omega)
  have hp0:CG c c.Aa.xs.length=c.Kernel*16+2+24*(c.Aa.xs.length:Int):=rfl
  have hs:=LD (gd c.Ah.xs k)
  have hp:=Ri (gd c.Ah.xs k)
  have hd:=hf.UX hk
  unfold SX at hy
  rw[List.mem_append]at hy
  rcases hy with hy | hy
  ·simp only[List.mem_cons,List.not_mem_nil,or_false]at hy
   rcases hy with rfl | rfl <;> (unfold U7;simp only;omega)
  simp only[Hr,List.mem_map,List.mem_range]at hy
  obtain⟨j,hj,rfl⟩:=hy
  have hdb:=Yq hf hk (show j≤4 by unfold Jk at hd;omega)
  have he:=Vk (k:=(k:Int)) (b:=false) (fun i hi=>ML (hf.parts i hi)) hpn (gd (BV c (k:Int) false) j) (by rw[F8 hj];exact List.getElem_mem hj)
  unfold U7 Tj;simp only;omega
 simp only[LK,List.mem_flatMap,List.mem_range]at hy
 obtain⟨p,hp,hy⟩:=hy
 simp only[Hy,List.mem_map,List.mem_range]at hy
 obtain⟨u,hu,rfl⟩:=hy
 have ht:=Ql hf p (by omega)
 have hn:=Rx (gd c.Aa.xs p)
 unfold U7;simp only;omega
theorem Yn{c:Aj}(hf:Fine c){m:Nat}(h:m<(CP c).length):U7 c (gd (CP c) m):=pc_mem hf _ (by rw[F8 h];exact List.getElem_mem h)
theorem Za0{F:Nat→Prop}{W:World}{c:Aj}(hf:Fine c):∀ i,i<(CP c).length→Bl.ok F W (gd (CP c) i):=fun i hi=>by
 obtain⟨a1,a2,a3,a4,a5,a6,a7,a8,a9,a10, -⟩:=Yn hf hi
 exact⟨Oz a3 (by omega),Oz a5 (by omega),⟨Oz (by omega) (by omega),Oz a7 (by omega),Oz a9 (by omega)⟩⟩
theorem st2(F:Fold)(y:Bl)(h:y.A8.Kind=2):H5 F y=⟨y.At,F.ps,F.cs,F.ch,y.At+y.Size⟩:=by unfold H5;rw[if_pos h]
theorem st3(F:Fold)(y:Bl)(h:y.A8.Kind=3):H5 F y=⟨F.bar,F.ps.set y.A8.Index.toNat { gd F.ps y.A8.Index.toNat with Lock:=y.At },F.cs,F.ch,y.At+y.Size⟩:=by unfold H5;rw[if_neg (by omega),if_pos h]
theorem st4(F:Fold)(y:Bl)(h:y.A8.Kind=4):H5 F y=⟨F.bar,F.ps.set y.A8.Index.toNat { gd F.ps y.A8.Index.toNat with MM:=y.At },F.cs,F.ch,y.At+y.Size⟩:=by unfold H5;rw[if_neg (by omega),if_neg (by omega),if_pos h]
theorem st5(F:Fold)(y:Bl)(h:y.A8.Kind=5):H5 F y=⟨F.bar,F.ps.set y.A8.Index.toNat { gd F.ps y.A8.Index.toNat with State:=y.At },F.cs,F.ch,y.At+y.Size⟩:=by unfold H5;rw[if_neg (by omega),if_neg (by omega),if_neg (by omega),if_pos h]
theorem st6(F:Fold)(y:Bl)(h:y.A8.Kind=6):H5 F y=⟨F.bar,F.ps,F.cs.set y.A8.Index.toNat { gd F.cs y.A8.Index.toNat with Lock:=y.At },y.A8.Index,y.At+y.Size⟩:=by unfold H5;rw[if_neg (by omega),if_neg (by omega),if_neg (by omega),if_neg (by omega),if_pos h]
theorem st7(F:Fold)(y:Bl)(h:y.A8.Kind=7):H5 F y=⟨F.bar,F.ps,F.cs.set y.A8.Index.toNat { gd F.cs y.A8.Index.toNat with NC:=y.At },F.ch,y.At+y.Size⟩:=by unfold H5;rw[if_neg (by omega),if_neg (by omega),if_neg (by omega),if_neg (by omega),if_neg (by omega),if_pos h]
theorem st8(F:Fold)(y:Bl)(h:y.A8.Kind=8):H5 F y=⟨F.bar,F.ps,F.cs.set F.ch.toNat (Zan (gd F.cs F.ch.toNat) y),F.ch,y.At+y.Size⟩:=by unfold H5;rw[if_neg (by omega),if_neg (by omega),if_neg (by omega),if_neg (by omega),if_neg (by omega),if_neg (by omega),if_pos h]
theorem st9(F:Fold)(y:Bl)(h:y.A8.Kind=9):H5 F y=⟨F.bar,F.ps.set y.A8.Index.toNat (RN (gd F.ps y.A8.Index.toNat) y.At),F.cs,F.ch,y.At+y.Size⟩:=by unfold H5;rw[if_neg (by omega),if_neg (by omega),if_neg (by omega),if_neg (by omega),if_neg (by omega),if_neg (by omega),if_neg (by omega)]
theorem XX{c:Aj}(hf:Fine c):∀ (m:Nat),m≤(CP c).length→0≤(BK c m).ch∧((BK c m).ch<(c.Ah.xs.length:Int)∨(BK c m).ch=0)
 | 0,_=>⟨Int.le_refl _,.inr rfl⟩
 | m+1,h=>by
  have ih:=XX hf m (by omega)
  obtain⟨a1,a2,a3,a4,a5,a6,a7,a8,a9,a10,a11,a12,a13⟩:=Yn hf (show m<(CP c).length by omega)
  rw[IP (by omega)]
  generalize gd (CP c) m=y at *
  have hk:y.A8.Kind=2∨y.A8.Kind=3∨y.A8.Kind=4∨y.A8.Kind=5∨y.A8.Kind=6∨y.A8.Kind=7∨y.A8.Kind=8∨y.A8.Kind=9:=by omega
  rcases hk with h | h | h | h | h | h | h | h
  ·rw[st2 _ _ h];exact ih
  ·rw[st3 _ _ h];exact ih
  ·rw[st4 _ _ h];exact ih
  ·rw[st5 _ _ h];exact ih
  ·rw[st6 _ _ h];exact⟨a7,.inl (a12 (.inl h))⟩
  ·rw[st7 _ _ h];exact ih
  ·rw[st8 _ _ h];exact ih
  rw[st9 _ _ h];exact ih
theorem WA{c:Aj}(hf:Fine c):(BK c (CP c).length).bar=16*c.Kernel∧(BK c (CP c).length).ps=(List.range c.Aa.xs.length).map (psT c c.Aa.xs.length)∧(BK c (CP c).length).cs=(List.range c.Ah.xs.length).map (Uf c c.Ah.xs.length)∧((BK c (CP c).length).fin+16 - 1) / 16=DD c c.Aa.xs.length:=by
 obtain⟨ch,fin,e,h⟩:=fold_all c hf
 unfold BK
 rw[List.take_length,e]
 exact⟨rfl,rfl,rfl,h⟩
def NP(c:Aj)(k:Nat):List Au:=(List.range c.Ah.xs.length).map (fun q=>if q<k then Qz c q else⟨0,0,0,0,⟨none,0,[]⟩⟩)
theorem Za3{c:Aj}:NP c 0=List.replicate c.Ah.xs.length ⟨0,0,0,0,⟨none,0,[]⟩⟩:=by
 unfold NP;apply List.ext_getElem (by simp);intro i h1 h2;simp
theorem YN{c:Aj}{k:Nat}:(NP c k).length=c.Ah.xs.length:=by simp[NP]
theorem csUp_at{c:Aj}{k:Nat}(h:k<c.Ah.xs.length):gd (NP c k) k=⟨0,0,0,0,⟨none,0,[]⟩⟩:=by unfold NP;rw[Tf h];simp
theorem Zar{c:Aj}{k:Nat}:(NP c k).set k (Qz c k)=NP c (k+1):=by
 unfold NP
 rw[map_set (g:=fun q=>if q<k+1 then Qz c q else⟨0,0,0,0,⟨none,0,[]⟩⟩) (by simp) (fun q hq=>by by_cases e:q<k <;> simp[e,show(q<k+1)=(q<k∨q=k)by apply propext;omega,hq])]
theorem csUp_all{c:Aj}:NP c c.Ah.xs.length=(F0 c).cs:=List.map_congr_left fun q hq=>by simp[List.mem_range.1 hq]
theorem csUp_nil{c:Aj}{k:Nat}:(NP c k).map Au.Dw=List.replicate c.Ah.xs.length ⟨none,0,[]⟩:=by
 apply List.ext_getElem (by simp[NP])
 intro i h1 h2
 simp only[NP,List.getElem_map,List.getElem_range,List.getElem_replicate]
 split <;> rfl
theorem un_nP{c:Aj}{p:Nat}{x:Ap}{l:List Int}(h:nP x=FH c p ⟨none,0,l⟩):∃ a cp,x=FH c p ⟨a,cp,l⟩:=by
 obtain⟨x1,x2,x3,x4,a,cp,xs⟩:=x
 simp only[nP,FH,Ap.mk.injEq,Sl.mk.injEq,true_and]at h
 obtain⟨rfl,rfl,rfl,rfl,rfl⟩:=h
 exact⟨a,cp,rfl⟩
theorem un_nC{c:Aj}{k:Nat}{x:Au}{l:List Bh}(h:nC x=IR c k ⟨none,0,l⟩):∃ a cp,x=IR c k ⟨a,cp,l⟩:=by
 obtain⟨x1,x2,x3,x4,a,cp,xs⟩:=x
 simp only[nC,IR,Au.mk.injEq,Sl.mk.injEq,true_and]at h
 obtain⟨rfl,rfl,rfl,rfl,rfl⟩:=h
 exact⟨a,cp,rfl⟩
theorem lay_of{c:Aj}(hf:Fine c){ps:List Ap}{cs:List Au}{a b:Option Addr}{n k:Nat}(h1:ps.map nP=(BK c (CP c).length).ps)(h2:cs.map nC=(BK c (CP c).length).cs):Ud c ⟨(BK c (CP c).length).bar,⟨a,n,ps⟩,⟨b,k,cs⟩,((BK c (CP c).length).fin+16 - 1) / 16⟩:=by
 obtain⟨e1,e2,e3,e4⟩:=WA hf
 rw[e2]at h1
 rw[e3]at h2
 have hl1:ps.length=c.Aa.xs.length:=by have:=congrArg List.length h1;simpa using this
 have hl2:cs.length=c.Ah.xs.length:=by have:=congrArg List.length h2;simpa using this
 refine⟨by show(BK c (CP c).length).bar=c.Kernel*16;rw[e1];omega,e4,hl1, ?_,hl2, ?_⟩
 ·intro p hp
  refine un_nP (x:=gd ps p) ?_
  rw[←KY (f:=nP) (by omega),h1,Tf hp];simp[psT,hp]
 intro k hk
 refine un_nC (x:=gd cs k) ?_
 rw[←KY (f:=nC) (by omega),h2,Tf hk];simp[Uf,hk]
theorem PP{α:Type}{p:α→Prop}{xs:List α}{n:Nat}{v:α}(h:∀ x∈xs,p x)(hv:n<xs.length→p v):∀ x∈xs.set n v,p x:=by
 by_cases hn:n<xs.length
 ·intro x hx
  rcases List.mem_or_eq_of_mem_set hx with hx | rfl
  ·exact h x hx
  exact hv hn
 rw[List.set_eq_of_length_le (by omega)];exact h
theorem PI{α:Type}[Inhabited α]{xs:List α}{n:Nat}(h:n<xs.length):gd xs n∈xs:=by rw[F8 h];exact List.getElem_mem h
theorem Um{c:Aj}(hf:Fine c):∀ (m:Nat),m≤(CP c).length→(∀ x∈(BK c m).ps,x.Tables.xs.length≤m)∧(∀ x∈(BK c m).cs,x.Dw.xs.length≤m)
 | 0,_=>by
  constructor
  ·intro x hx
   simp only[BK,List.take_zero,List.foldl_nil,F0,List.mem_map]at hx
   obtain⟨_,_,rfl⟩:=hx;exact Nat.le_refl _
  intro x hx
  simp only[BK,List.take_zero,List.foldl_nil,F0,List.mem_map]at hx
  obtain⟨_,_,rfl⟩:=hx;exact Nat.le_refl _
 | m+1,h=>by
  obtain⟨i1,i2⟩:=Um hf m (by omega)
  have j1:∀ x∈(BK c m).ps,x.Tables.xs.length≤m+1:=fun x hx=>Nat.le_succ_of_le (i1 x hx)
  have j2:∀ x∈(BK c m).cs,x.Dw.xs.length≤m+1:=fun x hx=>Nat.le_succ_of_le (i2 x hx)
  obtain⟨a1,a2, -⟩:=Yn hf (show m<(CP c).length by omega)
  rw[IP (by omega)]
  generalize gd (CP c) m=y at *
  have hk:y.A8.Kind=2∨y.A8.Kind=3∨y.A8.Kind=4∨y.A8.Kind=5∨y.A8.Kind=6∨y.A8.Kind=7∨y.A8.Kind=8∨y.A8.Kind=9:=by omega
  rcases hk with h | h | h | h | h | h | h | h
  ·rw[st2 _ _ h];exact⟨j1,j2⟩
  ·rw[st3 _ _ h];exact⟨PP j1 (fun hn=>show(gd (BK c m).ps y.A8.Index.toNat).Tables.xs.length≤m+1 from j1 _ (PI hn)),j2⟩
  ·rw[st4 _ _ h];exact⟨PP j1 (fun hn=>show(gd (BK c m).ps y.A8.Index.toNat).Tables.xs.length≤m+1 from j1 _ (PI hn)),j2⟩
  ·rw[st5 _ _ h];exact⟨PP j1 (fun hn=>show(gd (BK c m).ps y.A8.Index.toNat).Tables.xs.length≤m+1 from j1 _ (PI hn)),j2⟩
  ·rw[st6 _ _ h];exact⟨j1,PP j2 (fun hn=>show(gd (BK c m).cs y.A8.Index.toNat).Dw.xs.length≤m+1 from j2 _ (PI hn))⟩
  ·rw[st7 _ _ h];exact⟨j1,PP j2 (fun hn=>show(gd (BK c m).cs y.A8.Index.toNat).Dw.xs.length≤m+1 from j2 _ (PI hn))⟩
  ·rw[st8 _ _ h]
   refine⟨j1,PP j2 (fun hn => ?_)⟩
   have:=i2 _ (PI hn)
   simp only[Zan,List.length_append,List.length_singleton];omega
  rw[st9 _ _ h]
  refine⟨PP j1 (fun hn => ?_),j2⟩
  have:=i1 _ (PI hn)
  unfold RN
  split
  ·exact Nat.le_succ_of_le this
  simp only[List.length_append,List.length_singleton];omega
theorem tabF_pos{p:Ap}{a:Int}(h:p.Root=0):RN p a={ p with Root:=a / 16 }:=by unfold RN;rw[if_pos h]
theorem tabF_neg{p:Ap}{a:Int}(h:¬ p.Root=0):RN p a={ p with Tables:=⟨none,0,p.Tables.xs++[a / 16]⟩ }:=by unfold RN;rw[if_neg h]
section
variable (b7:Nat)(c:Aj)(mm b5:Nat)(b6 n14:Nat)(n2 n20 n24:Nat)(y49:Bl)(n8 n16:Nat)(n10 n40 z:Nat)(csG:List Au)(y62:Au)(ax63:Option Addr)(cp64:Nat)(psG:List Ap)(y68:Ap)(ax70:Option Addr)(cp71 b42:Nat)(o43 cp38:Nat)(ax37:Option Addr)(w:World)(k:Nat)
abbrev EM:=bk b7 #[i6 ((BK c mm).bar),.slice (some ⟨b5,0,none⟩) c.Aa.xs.length c.Aa.xs.length,.slice (some ⟨b6,0,none⟩) c.Ah.xs.length c.Ah.xs.length,i6 0] 60
abbrev Y9:=bk n14 #[i6 0,.slice (some ⟨n14+1,0,none⟩) c.Aa.xs.length c.Aa.xs.length,.slice (some ⟨n2,0,none⟩) c.Ah.xs.length c.Ah.xs.length,i6 0] 60
abbrev YS:=bk n2 #[i6 0,.slice (some ⟨n2+1,0,none⟩) c.Aa.xs.length c.Aa.xs.length,.slice (some ⟨n20,0,none⟩) c.Ah.xs.length c.Ah.xs.length,i6 0] 60
abbrev YF:=bk n2 #[i6 0,.slice (some ⟨n24,0,none⟩) c.Aa.xs.length c.Aa.xs.length,.slice (some ⟨n2+1,0,none⟩) c.Ah.xs.length c.Ah.xs.length,i6 0] 60
abbrev TC:=bk b7 #[i6 y49.At,.slice (some ⟨b5,0,none⟩) c.Aa.xs.length c.Aa.xs.length,.slice (some ⟨b6,0,none⟩) c.Ah.xs.length c.Ah.xs.length,i6 0] 60
abbrev YX:=bk n8 #[i6 0,.slice (some ⟨n2,0,none⟩) c.Aa.xs.length c.Aa.xs.length,.slice (some ⟨n8+1,0,none⟩) c.Ah.xs.length c.Ah.xs.length,i6 0] 60
abbrev YA:=bk n16 #[i6 0,.slice (some ⟨n14,0,none⟩) c.Aa.xs.length c.Aa.xs.length,.slice (some ⟨n2,0,none⟩) c.Ah.xs.length c.Ah.xs.length,i6 0] 60
abbrev qo29_7:=bk n10 #[i6 0,.slice (some ⟨n2,0,none⟩) c.Aa.xs.length c.Aa.xs.length,.slice (some ⟨n8,0,none⟩) c.Ah.xs.length c.Ah.xs.length,i6 0] 60
abbrev Hw:=bk b7 #[i6 0,.slice (some ⟨b5,0,none⟩) c.Aa.xs.length c.Aa.xs.length,.slice (some ⟨b6,0,none⟩) c.Ah.xs.length c.Ah.xs.length,i6 0] 60
abbrev UF:=bk (n40+1) #[i6 y49.A8.Index,i6 y49.A8.Port,i6 y49.At] 99
abbrev CX:=bk (z+1) #[i6 0,.slice none 0 0,.slice none 0 0,i6 0] 60
abbrev I5:=bk n40 (Bl.arr y49) 97
abbrev CQ:=bk z (Aj.arr c) 26
abbrev Tz:=Ci z 91 5 Au.cells (.slice (some ⟨b6,0,none⟩) c.Ah.xs.length c.Ah.xs.length) (csG.set (((BK c mm).ch).toNat) (⟨y62.Lock,y62.NC,y62.Partition,y62.Port,(⟨ax63,cp64,(y62.Dw.xs++[(⟨y49.A8.Index,y49.A8.Port,y49.At⟩:Bh)])⟩:Sl Bh)⟩:Au))
abbrev TF:=Ci z 70 5 Ap.cells (.slice (some ⟨b5,0,none⟩) c.Aa.xs.length c.Aa.xs.length) (psG.set ((y49.A8.Index).toNat) (⟨y68.Lock,y68.MM,y68.State,y68.Root,(⟨ax70,cp71,(y68.Tables.xs++[y49.At / 16])⟩:Sl Int)⟩:Ap))
abbrev Xg:=Ci z 70 5 Ap.cells (.slice (some ⟨n14+1,0,none⟩) c.Aa.xs.length c.Aa.xs.length) (List.replicate c.Aa.xs.length (⟨0,0,0,0,(⟨none,0,[]⟩:Sl Int)⟩:Ap))
abbrev XL:=Ci z 70 5 Ap.cells (.slice (some ⟨n2+1,0,none⟩) c.Aa.xs.length c.Aa.xs.length) (List.replicate c.Aa.xs.length (⟨0,0,0,0,(⟨none,0,[]⟩:Sl Int)⟩:Ap))
abbrev Xe:=Ci z 91 5 Au.cells (.slice (some ⟨n8+1,0,none⟩) c.Ah.xs.length c.Ah.xs.length) (List.replicate c.Ah.xs.length (⟨0,0,0,0,(⟨none,0,[]⟩:Sl Bh)⟩:Au))
abbrev Vw:=Ci z 70 5 Ap.cells (.slice (some ⟨n14,0,none⟩) c.Aa.xs.length c.Aa.xs.length) (List.replicate c.Aa.xs.length (⟨0,0,0,0,(⟨none,0,[]⟩:Sl Int)⟩:Ap))
abbrev Xm:=Ci z 91 5 Au.cells (.slice (some ⟨n2+1,0,none⟩) c.Ah.xs.length c.Ah.xs.length) (List.replicate c.Ah.xs.length (⟨0,0,0,0,(⟨none,0,[]⟩:Sl Bh)⟩:Au))
abbrev WZ:=Ci z 70 5 Ap.cells (.slice (some ⟨n24,0,none⟩) c.Aa.xs.length c.Aa.xs.length) (List.replicate c.Aa.xs.length (⟨0,0,0,0,(⟨none,0,[]⟩:Sl Int)⟩:Ap))
abbrev Q9:=Ci z 70 5 Ap.cells (.slice (some ⟨n2,0,none⟩) c.Aa.xs.length c.Aa.xs.length) (List.replicate c.Aa.xs.length (⟨0,0,0,0,(⟨none,0,[]⟩:Sl Int)⟩:Ap))
abbrev G9:=Ci z 70 5 Ap.cells (.slice (some ⟨b5,0,none⟩) c.Aa.xs.length c.Aa.xs.length) (List.replicate c.Aa.xs.length (⟨0,0,0,0,(⟨none,0,[]⟩:Sl Int)⟩:Ap))
abbrev Xn:=Ci z 91 5 Au.cells (.slice (some ⟨n20,0,none⟩) c.Ah.xs.length c.Ah.xs.length) (List.replicate c.Ah.xs.length (⟨0,0,0,0,(⟨none,0,[]⟩:Sl Bh)⟩:Au))
abbrev Z7:=Ci z 91 5 Au.cells (.slice (some ⟨n8,0,none⟩) c.Ah.xs.length c.Ah.xs.length) (List.replicate c.Ah.xs.length (⟨0,0,0,0,(⟨none,0,[]⟩:Sl Bh)⟩:Au))
abbrev OH:=Ci z 91 5 Au.cells (.slice (some ⟨n2,0,none⟩) c.Ah.xs.length c.Ah.xs.length) (List.replicate c.Ah.xs.length (⟨0,0,0,0,(⟨none,0,[]⟩:Sl Bh)⟩:Au))
abbrev SQ:=Hu z 3 1 (fun x:Int=>[i6 x]) ((psG.map Ap.Tables).eraseIdx ((y49.A8.Index).toNat))
abbrev Eu:=Ci z 70 5 Ap.cells (.slice (some ⟨b5,0,none⟩) c.Aa.xs.length c.Aa.xs.length) psG
abbrev Es:=Ci z 91 5 Au.cells (.slice (some ⟨b6,0,none⟩) c.Ah.xs.length c.Ah.xs.length) csG
abbrev S9:=Hu z 99 3 Bh.cells ((csG.map Au.Dw).eraseIdx (((BK c mm).ch).toNat))
abbrev EG:=Hu z 3 1 (fun x:Int=>[i6 x]) (psG.map Ap.Tables)
abbrev EE:=Hu z 99 3 Bh.cells (csG.map Au.Dw)
abbrev Z8:Dc:=(26,.agg #[i6 0,.slice (some ⟨n14,0,none⟩) c.Aa.xs.length c.Aa.xs.length,.slice (some ⟨n2,0,none⟩) c.Ah.xs.length c.Ah.xs.length,i6 0])
abbrev Z4:Dc:=(26,.agg #[i6 0,.slice (some ⟨n2,0,none⟩) c.Aa.xs.length c.Aa.xs.length,.slice (some ⟨n8,0,none⟩) c.Ah.xs.length c.Ah.xs.length,i6 0])
abbrev Tq:Dc:=(168,.slice (some ⟨b5,0,none⟩) c.Aa.xs.length c.Aa.xs.length)
abbrev UU:Dc:=(21,.slice (some ⟨n2,0,none⟩) c.Aa.xs.length c.Aa.xs.length)
abbrev TL:Dc:=(131,.slice (some ⟨b6,0,none⟩) c.Ah.xs.length c.Ah.xs.length)
abbrev UI:Dc:=(25,.slice (some ⟨n2,0,none⟩) c.Ah.xs.length c.Ah.xs.length)
abbrev D7:Dc:=(9,.slice (some ⟨b42,o43,none⟩) ((CP c).length) cp38)
abbrev QO:=(20,Ac c.Aa.xs.length)
abbrev QK:=(24,Ac c.Ah.xs.length)
abbrev FB:=(29,Ac c.Ah.xs.length)
abbrev CV:=(58,i6 (((CP c).length:Nat):Int))
abbrev Fa:Dc:=(9,.slice ax37 ((CP c).length) cp38)
abbrev EI:=(59,i6 ((mm+1:Nat):Int))
abbrev Be:=(2,pt (z+1))
abbrev Gw:=(12,pt n40)
abbrev Dj:=(10,i6 (y49.At+y49.Size))
abbrev Mc:=(4,pt n2)
abbrev Cj:=(4,pt b7)
abbrev G7:=[(Ak w),(CQ c z),(CX z),(G9 c b5 z),(Ci z 91 5 Au.cells (.slice (some ⟨b6,0,none⟩) c.Ah.xs.length c.Ah.xs.length) (NP c k)),(Hw b7 c b5 b6)]
abbrev Xv:=[(Ak w),(CQ c z),(CX z),(Q9 c n2 z),(Z7 c n8 z),(qo29_7 c n2 n8 n10)]
end
theorem rof_yes(w:World)(c:Aj)(hc:Aj.ok Any w c)(hok:Eh c=true):Calls Tryd.prog 14 #[.agg (Aj.arr c)] w fun e w'=>∃ L:FK,e = .returned (.tuple #[.agg (FK.arr L),.int .i64 0])∧Ud c L∧FK.ok (New w.heap.size) w' L∧Ur w.heap.size w' L∧CZ (fun _=>False) w w':=by
 obtain⟨z,hz⟩:∃ z,z=w.heap.size:=⟨_,rfl⟩
 refine Cb (args:=[.agg (Aj.arr c)]) 190 ⟨w,z,[(Ak w)]⟩ Tryd.func14 rfl (by kernel_rfl) (by kernel_rfl) (ES hz) ?_
 have hfine:=Vf hok;have hkn:=hfine.kn;have hpn:=hfine.pn;have hcn:=hfine.cn
 refine Ee [0] [(0,.agg (Aj.arr c))] ?_
 refine q_c 7 1 [] [[o0,o0,o0],[(an 7 1)]] [Qb z,Qb z,Qb z,Qb z,Qb z,Qb z,Qb z] [(1,pt z),(Be z),(14,.agg (Aj.arr c))] ⟨w,z+2,[(Ak w),(CQ c z),(CX z)]⟩ rfl ⟨rfl,rfl,rfl,rfl,rfl,rfl,rfl,Af⟩ ?_
 refine BI 30 #[.agg (Aj.arr c)] (some 15) (.bool true) (fun w1 hw1=>rmay_yes w1 c (hc.ext (hw1.ext rfl) (fun _ h=>h)) hok) (fun n2 (hn3:z+2≤n2) => ?_)
 refine Cc 6 0 [0] [[o0]] [] [(1,pt z),(Be z),(16,.bool false)] rfl Af ?_
 refine Eo 10 [0,1,2] [(Ak w),(CQ c z),(CX z)] rfl rfl ?_
 refine D6 [(0,o0),(1,(a1 1)),(2,o0),(4,o0),(5,(a1 1)),(6,o0)] [1,2,20,24] [Qb z,Qb z] [true,true,true,false,true,true,true,false,false,false,false] [(1,pt z),(Be z),(QO c),(QK c)] ⟨rfl,rfl,Af⟩ ?_
 refine Oq (fun x:{p:Nat×Nat×Nat×Nat // n2≤p.1∧n2≤p.2.1∧n2≤p.2.2.1∧n2≤p.2.2.2}=>([(1,pt z),(Be z),(4,pt x.1.2.2.2)],⟨w,x.1.1,[(Ak w),(CQ c z),(CX z),(Ci z 70 5 Ap.cells (.slice (some ⟨x.1.2.1,0,none⟩) c.Aa.xs.length c.Aa.xs.length) (List.replicate c.Aa.xs.length (⟨0,0,0,0,(⟨none,0,[]⟩:Sl Int)⟩:Ap))),(Ci z 91 5 Au.cells (.slice (some ⟨x.1.2.2.1,0,none⟩) c.Ah.xs.length c.Ah.xs.length) (List.replicate c.Ah.xs.length (⟨0,0,0,0,(⟨none,0,[]⟩:Sl Bh)⟩:Au))),(.blk x.1.2.2.2 (.cells #[i6 0,.slice (some ⟨x.1.2.1,0,none⟩) c.Aa.xs.length c.Aa.xs.length,.slice (some ⟨x.1.2.2.1,0,none⟩) c.Ah.xs.length c.Ah.xs.length,i6 0] 60 (0,0)) true)]⟩)) (fun hK => ?_) ?_
 ·refine Io [3,7,9] ?_
  refine List.forall_mem_cons.2 ⟨?_,List.forall_mem_cons.2 ⟨?_,List.forall_mem_cons.2 ⟨?_,fun _ h=>absurd h List.not_mem_nil⟩⟩⟩
  ·refine Np z c.Aa.xs.length (⟨0,0,0,0,(⟨none,0,[]⟩:Sl Int)⟩:Ap) Ap.cells 70 5 56 (.agg #[i6 0,i6 0,i6 0,i6 0,.slice none 0 0]) (c.Aa.xs.length:Int) (c.Aa.xs.length:Int) (some 21) [0,1,2] rfl rfl (by omega) (show z≤n2 by omega) (.inr rfl) (fun n8 (hn9:n2+1≤n8) => ?_)
   refine Dt [1,2,24,21] [(1,pt z),(Be z),(QK c),(UU c n2)] ?_
   refine Io [7,9] ?_
   refine List.forall_mem_cons.2 ⟨?_,List.forall_mem_cons.2 ⟨?_,fun _ h=>absurd h List.not_mem_nil⟩⟩
   ·refine Np z c.Ah.xs.length (⟨0,0,0,0,(⟨none,0,[]⟩:Sl Bh)⟩:Au) Au.cells 91 5 56 (.agg #[i6 0,i6 0,i6 0,i6 0,.slice none 0 0]) (c.Ah.xs.length:Int) (c.Ah.xs.length:Int) (some 25) [0,1,2] rfl rfl (by omega) (show z≤n8 by omega) (.inr rfl) (fun n10 (hn11:n8+1≤n10) => ?_)
    refine Dt [1,2,21,25] [(1,pt z),(Be z),(UU c n2),(25,.slice (some ⟨n8,0,none⟩) c.Ah.xs.length c.Ah.xs.length)] ?_
    refine D6 [(8,o0)] [1,2,26] [] (DC 9 2) [(1,pt z),(Be z),(Z4 c n2 n8)] Af ?_
    refine Bv 9 ?_
    refine BC o0 [1,2,26,4] [] [(1,pt z),(Be z),(Z4 c n2 n8),(4,pt n10)] ⟨w,n10+1,[(Ak w),(CQ c z),(CX z),(Q9 c n2 z),(Z7 c n8 z),(bk n10 #[i6 0,.slice none 0 0,.slice none 0 0,i6 0] 60)]⟩ [0,1,2] Af (.inr rfl) ?_
    refine Bv 10 ?_
    refine BC (an 4 5) [1,2,4] [Qb n10,Qb n10,Qb n10,Qb n10] [(1,pt z),(Be z),(4,pt n10)] ⟨w,n10+1,(Xv c n2 n8 n10 z w)⟩ [] ⟨rfl,rfl,rfl,rfl,Af⟩ (.inl rfl) ?_
    refine DV 11 [0,1,2,3,4,5] (Xv c n2 n8 n10 z w) rfl rfl ?_
    refine Dl ?_
    refine BR [1,2,4] [(1,pt z),(Be z),(4,pt n10)] ?_
    refine BX [0,1,2,3,4,5] (Xv c n2 n8 n10 z w) rfl rfl ?_
    exact hK ⟨(n10+1,n2,n8,n10),by first | omega | (dsimp only;omega)⟩
   refine BC o0 [1,2,24,21,4] [] [(1,pt z),(Be z),(QK c),(UU c n2),(4,pt n8)] ⟨w,n8+1,[(Ak w),(CQ c z),(CX z),(Q9 c n2 z),(bk n8 #[i6 0,.slice none 0 0,.slice none 0 0,i6 0] 60)]⟩ [0,1,2] Af (.inr rfl) ?_
   refine Bv 7 ?_
   refine Np z c.Ah.xs.length (⟨0,0,0,0,(⟨none,0,[]⟩:Sl Bh)⟩:Au) Au.cells 91 5 56 (.agg #[i6 0,i6 0,i6 0,i6 0,.slice none 0 0]) (c.Ah.xs.length:Int) (c.Ah.xs.length:Int) (some 25) [0,1,2] rfl rfl (by omega) (show z≤n8+1 by omega) (.inr rfl) (fun n12 (hn13:n8+1+1≤n12) => ?_)
   refine Dt [1,2,21,4,25] [(1,pt z),(Be z),(UU c n2),(4,pt n8),(25,.slice (some ⟨n8+1,0,none⟩) c.Ah.xs.length c.Ah.xs.length)] ?_
   refine D6 [(8,o0)] [1,2,4,26] [] (DC 10 1) [(1,pt z),(Be z),(4,pt n8),(26,.agg #[i6 0,.slice (some ⟨n2,0,none⟩) c.Aa.xs.length c.Aa.xs.length,.slice (some ⟨n8+1,0,none⟩) c.Ah.xs.length c.Ah.xs.length,i6 0])] Af ?_
   refine Bv 10 ?_
   refine BC (an 4 4) [1,2,4] [Qb n8,Qb n8,Qb n8,Qb n8] [(1,pt z),(Be z),(4,pt n8)] ⟨w,n12,[(Ak w),(CQ c z),(CX z),(Q9 c n2 z),(YX c n2 n8),(Xe c n8 z)]⟩ [] ⟨rfl,rfl,rfl,rfl,Af⟩ (.inl rfl) ?_
   refine DV 11 [0,1,2,3,4,5] [(Ak w),(CQ c z),(CX z),(Q9 c n2 z),(YX c n2 n8),(Xe c n8 z)] rfl rfl ?_
   refine Dl ?_
   refine BR [1,2,4] [(1,pt z),(Be z),(4,pt n8)] ?_
   refine BX [0,1,2,3,5,4] [(Ak w),(CQ c z),(CX z),(Q9 c n2 z),(Xe c n8 z),(YX c n2 n8)] rfl rfl ?_
   exact hK ⟨(n12,n2,n8+1,n8),by first | omega | (dsimp only;omega)⟩
  ·refine Np z c.Ah.xs.length (⟨0,0,0,0,(⟨none,0,[]⟩:Sl Bh)⟩:Au) Au.cells 91 5 56 (.agg #[i6 0,i6 0,i6 0,i6 0,.slice none 0 0]) (c.Ah.xs.length:Int) (c.Ah.xs.length:Int) (some 25) [0,1,2] rfl rfl (by omega) (show z≤n2 by omega) (.inr rfl) (fun n14 (hn15:n2+1≤n14) => ?_)
   refine Dt [1,2,20,25] [(1,pt z),(Be z),(QO c),(UI c n2)] ?_
   refine Io [3,9] ?_
   refine List.forall_mem_cons.2 ⟨?_,List.forall_mem_cons.2 ⟨?_,fun _ h=>absurd h List.not_mem_nil⟩⟩
   ·refine Np z c.Aa.xs.length (⟨0,0,0,0,(⟨none,0,[]⟩:Sl Int)⟩:Ap) Ap.cells 70 5 56 (.agg #[i6 0,i6 0,i6 0,i6 0,.slice none 0 0]) (c.Aa.xs.length:Int) (c.Aa.xs.length:Int) (some 21) [0,1,2] rfl rfl (by omega) (show z≤n14 by omega) (.inr rfl) (fun n16 (hn17:n14+1≤n16) => ?_)
    refine Dt [1,2,25,21] [(1,pt z),(Be z),(UI c n2),(21,.slice (some ⟨n14,0,none⟩) c.Aa.xs.length c.Aa.xs.length)] ?_
    refine D6 [(8,o0)] [1,2,26] [] (DC 9 2) [(1,pt z),(Be z),(Z8 c n14 n2)] Af ?_
    refine Bv 9 ?_
    refine BC o0 [1,2,26,4] [] [(1,pt z),(Be z),(Z8 c n14 n2),(4,pt n16)] ⟨w,n16+1,[(Ak w),(CQ c z),(CX z),(OH c n2 z),(Vw c n14 z),(bk n16 #[i6 0,.slice none 0 0,.slice none 0 0,i6 0] 60)]⟩ [0,1,2] Af (.inr rfl) ?_
    refine Bv 10 ?_
    refine BC (an 4 5) [1,2,4] [Qb n16,Qb n16,Qb n16,Qb n16] [(1,pt z),(Be z),(4,pt n16)] ⟨w,n16+1,[(Ak w),(CQ c z),(CX z),(OH c n2 z),(Vw c n14 z),(YA c n14 n2 n16)]⟩ [] ⟨rfl,rfl,rfl,rfl,Af⟩ (.inl rfl) ?_
    refine DV 11 [0,1,2,3,4,5] [(Ak w),(CQ c z),(CX z),(OH c n2 z),(Vw c n14 z),(YA c n14 n2 n16)] rfl rfl ?_
    refine Dl ?_
    refine BR [1,2,4] [(1,pt z),(Be z),(4,pt n16)] ?_
    refine BX [0,1,2,4,3,5] [(Ak w),(CQ c z),(CX z),(Vw c n14 z),(OH c n2 z),(YA c n14 n2 n16)] rfl rfl ?_
    exact hK ⟨(n16+1,n14,n2,n16),by first | omega | (dsimp only;omega)⟩
   refine BC o0 [1,2,20,25,4] [] [(1,pt z),(Be z),(QO c),(UI c n2),(4,pt n14)] ⟨w,n14+1,[(Ak w),(CQ c z),(CX z),(OH c n2 z),(bk n14 #[i6 0,.slice none 0 0,.slice none 0 0,i6 0] 60)]⟩ [0,1,2] Af (.inr rfl) ?_
   refine Bv 3 ?_
   refine Np z c.Aa.xs.length (⟨0,0,0,0,(⟨none,0,[]⟩:Sl Int)⟩:Ap) Ap.cells 70 5 56 (.agg #[i6 0,i6 0,i6 0,i6 0,.slice none 0 0]) (c.Aa.xs.length:Int) (c.Aa.xs.length:Int) (some 21) [0,1,2] rfl rfl (by omega) (show z≤n14+1 by omega) (.inr rfl) (fun n18 (hn19:n14+1+1≤n18) => ?_)
   refine Dt [1,2,25,4,21] [(1,pt z),(Be z),(UI c n2),(4,pt n14),(21,.slice (some ⟨n14+1,0,none⟩) c.Aa.xs.length c.Aa.xs.length)] ?_
   refine D6 [(8,o0)] [1,2,4,26] [] (DC 10 1) [(1,pt z),(Be z),(4,pt n14),(26,.agg #[i6 0,.slice (some ⟨n14+1,0,none⟩) c.Aa.xs.length c.Aa.xs.length,.slice (some ⟨n2,0,none⟩) c.Ah.xs.length c.Ah.xs.length,i6 0])] Af ?_
   refine Bv 10 ?_
   refine BC (an 4 4) [1,2,4] [Qb n14,Qb n14,Qb n14,Qb n14] [(1,pt z),(Be z),(4,pt n14)] ⟨w,n18,[(Ak w),(CQ c z),(CX z),(OH c n2 z),(Y9 c n14 n2),(Xg c n14 z)]⟩ [] ⟨rfl,rfl,rfl,rfl,Af⟩ (.inl rfl) ?_
   refine DV 11 [0,1,2,3,4,5] [(Ak w),(CQ c z),(CX z),(OH c n2 z),(Y9 c n14 n2),(Xg c n14 z)] rfl rfl ?_
   refine Dl ?_
   refine BR [1,2,4] [(1,pt z),(Be z),(4,pt n14)] ?_
   refine BX [0,1,2,5,3,4] [(Ak w),(CQ c z),(CX z),(Xg c n14 z),(OH c n2 z),(Y9 c n14 n2)] rfl rfl ?_
   exact hK ⟨(n18,n14+1,n2,n14),by first | omega | (dsimp only;omega)⟩
  refine BC o0 [1,2,20,24,4] [] [(1,pt z),(Be z),(QO c),(QK c),(Mc n2)] ⟨w,n2+1,[(Ak w),(CQ c z),(CX z),(bk n2 #[i6 0,.slice none 0 0,.slice none 0 0,i6 0] 60)]⟩ [0,1,2] Af (.inr rfl) ?_
  refine Io [3,7] ?_
  refine List.forall_mem_cons.2 ⟨?_,List.forall_mem_cons.2 ⟨?_,fun _ h=>absurd h List.not_mem_nil⟩⟩
  ·refine Np z c.Aa.xs.length (⟨0,0,0,0,(⟨none,0,[]⟩:Sl Int)⟩:Ap) Ap.cells 70 5 56 (.agg #[i6 0,i6 0,i6 0,i6 0,.slice none 0 0]) (c.Aa.xs.length:Int) (c.Aa.xs.length:Int) (some 21) [0,1,2] rfl rfl (by omega) (show z≤n2+1 by omega) (.inr rfl) (fun n20 (hn21:n2+1+1≤n20) => ?_)
   refine Dt [1,2,24,4,21] [(1,pt z),(Be z),(QK c),(Mc n2),(21,.slice (some ⟨n2+1,0,none⟩) c.Aa.xs.length c.Aa.xs.length)] ?_
   refine Bv 7 ?_
   refine Np z c.Ah.xs.length (⟨0,0,0,0,(⟨none,0,[]⟩:Sl Bh)⟩:Au) Au.cells 91 5 56 (.agg #[i6 0,i6 0,i6 0,i6 0,.slice none 0 0]) (c.Ah.xs.length:Int) (c.Ah.xs.length:Int) (some 25) [0,1,2] rfl rfl (by omega) (show z≤n20 by omega) (.inr rfl) (fun n22 (hn23:n20+1≤n22) => ?_)
   refine Dt [1,2,4,21,25] [(1,pt z),(Be z),(Mc n2),(21,.slice (some ⟨n2+1,0,none⟩) c.Aa.xs.length c.Aa.xs.length),(25,.slice (some ⟨n20,0,none⟩) c.Ah.xs.length c.Ah.xs.length)] ?_
   refine D6 [(8,o0)] [1,2,4,26] [] (DC 10 1) [(1,pt z),(Be z),(Mc n2),(26,.agg #[i6 0,.slice (some ⟨n2+1,0,none⟩) c.Aa.xs.length c.Aa.xs.length,.slice (some ⟨n20,0,none⟩) c.Ah.xs.length c.Ah.xs.length,i6 0])] Af ?_
   refine Bv 10 ?_
   refine BC (an 4 3) [1,2,4] [Qb n2,Qb n2,Qb n2,Qb n2] [(1,pt z),(Be z),(Mc n2)] ⟨w,n22,[(Ak w),(CQ c z),(CX z),(YS c n2 n20),(XL c n2 z),(Xn c n20 z)]⟩ [] ⟨rfl,rfl,rfl,rfl,Af⟩ (.inl rfl) ?_
   refine DV 11 [0,1,2,3,4,5] [(Ak w),(CQ c z),(CX z),(YS c n2 n20),(XL c n2 z),(Xn c n20 z)] rfl rfl ?_
   refine Dl ?_
   refine BR [1,2,4] [(1,pt z),(Be z),(Mc n2)] ?_
   refine BX [0,1,2,4,5,3] [(Ak w),(CQ c z),(CX z),(XL c n2 z),(Xn c n20 z),(YS c n2 n20)] rfl rfl ?_
   exact hK ⟨(n22,n2+1,n20,n2),by first | omega | (dsimp only;omega)⟩
  refine Np z c.Ah.xs.length (⟨0,0,0,0,(⟨none,0,[]⟩:Sl Bh)⟩:Au) Au.cells 91 5 56 (.agg #[i6 0,i6 0,i6 0,i6 0,.slice none 0 0]) (c.Ah.xs.length:Int) (c.Ah.xs.length:Int) (some 25) [0,1,2] rfl rfl (by omega) (show z≤n2+1 by omega) (.inr rfl) (fun n24 (hn25:n2+1+1≤n24) => ?_)
  refine Dt [1,2,20,4,25] [(1,pt z),(Be z),(QO c),(Mc n2),(25,.slice (some ⟨n2+1,0,none⟩) c.Ah.xs.length c.Ah.xs.length)] ?_
  refine Bv 3 ?_
  refine Np z c.Aa.xs.length (⟨0,0,0,0,(⟨none,0,[]⟩:Sl Int)⟩:Ap) Ap.cells 70 5 56 (.agg #[i6 0,i6 0,i6 0,i6 0,.slice none 0 0]) (c.Aa.xs.length:Int) (c.Aa.xs.length:Int) (some 21) [0,1,2] rfl rfl (by omega) (show z≤n24 by omega) (.inr rfl) (fun n26 (hn27:n24+1≤n26) => ?_)
  refine Dt [1,2,4,25,21] [(1,pt z),(Be z),(Mc n2),(25,.slice (some ⟨n2+1,0,none⟩) c.Ah.xs.length c.Ah.xs.length),(21,.slice (some ⟨n24,0,none⟩) c.Aa.xs.length c.Aa.xs.length)] ?_
  refine D6 [(8,o0)] [1,2,4,26] [] (DC 10 1) [(1,pt z),(Be z),(Mc n2),(26,.agg #[i6 0,.slice (some ⟨n24,0,none⟩) c.Aa.xs.length c.Aa.xs.length,.slice (some ⟨n2+1,0,none⟩) c.Ah.xs.length c.Ah.xs.length,i6 0])] Af ?_
  refine Bv 10 ?_
  refine BC (an 4 3) [1,2,4] [Qb n2,Qb n2,Qb n2,Qb n2] [(1,pt z),(Be z),(Mc n2)] ⟨w,n26,[(Ak w),(CQ c z),(CX z),(YF c n2 n24),(Xm c n2 z),(WZ c n24 z)]⟩ [] ⟨rfl,rfl,rfl,rfl,Af⟩ (.inl rfl) ?_
  refine DV 11 [0,1,2,3,4,5] [(Ak w),(CQ c z),(CX z),(YF c n2 n24),(Xm c n2 z),(WZ c n24 z)] rfl rfl ?_
  refine Dl ?_
  refine BR [1,2,4] [(1,pt z),(Be z),(Mc n2)] ?_
  refine BX [0,1,2,5,4,3] [(Ak w),(CQ c z),(CX z),(WZ c n24 z),(Xm c n2 z),(YF c n2 n24)] rfl rfl ?_
  exact hK ⟨(n26,n24,n2+1,n2),by first | omega | (dsimp only;omega)⟩
 rintro⟨⟨n4,b5,b6,b7⟩,hJ28⟩
 simp only at hJ28
 show E _ _ [(1,pt z),(Be z),(Cj b7)] _ ⟨w,n4,[(Ak w),(CQ c z),(CX z),(G9 c b5 z),(Ci z 91 5 Au.cells (.slice (some ⟨b6,0,none⟩) c.Ah.xs.length c.Ah.xs.length) (List.replicate c.Ah.xs.length (⟨0,0,0,0,(⟨none,0,[]⟩:Sl Bh)⟩:Au))),(Hw b7 c b5 b6)]⟩ _ _ _
 refine Oi 7 0 [] [[o0,(a1 1),o0,o0]] [Qb z] [(1,pt z),(Be z),(Cj b7),(FB c),(30,i6 0)] rfl ⟨rfl,Af⟩ ?_
 refine DY (fun m a w'=>∃ (n30:Nat) (k:Nat),m=c.Ah.xs.length - k∧n4≤n30∧(k≤c.Ah.xs.length)∧St 190 [(1,pt z),(Be z),(Cj b7),(FB c),(30,Ac k)] [] ⟨w,n30,(G7 b7 c b5 b6 z w k)⟩ a w') (c.Ah.xs.length - 0) ?_ ?_
 ·intro a w' hs;exact⟨n4,0,rfl,Nat.le_refl _,Nat.zero_le _,by(try dsimp only[Hw,CX,CQ,G9,QO,QK,FB,Be,Cj,G7]at hs ⊢);rw[Za3];exact hs⟩
 rintro m a w' ⟨n30,k,rfl,hn29,hkk,hs⟩
 refine(?_:G Tryd.prog 190 [(1,pt z),(Be z),(Cj b7),(FB c),(30,Ac k)] [] ⟨w,n30,(G7 b7 c b5 b6 z w k)⟩ _ _ _) a w' hs
 clear hs a w'
 have hul:=YN (c:=c) (k:=k)
 refine DW ?_
 by_cases h31:(k:Int)<(c.Ah.xs.length:Int)
 ·refine Az 15 2 [1] [[oT],[o0,o0],[(an 7 1),o0]] [BT ((k:Int)<(c.Ah.xs.length:Int)),Qb z,Qb z,Qb z,Qb z,Qb z,Qb z,Qb z] [(1,pt z),(Be z),(Cj b7),(FB c),(30,Ac k),(5,Ac k),(34,.agg (Aj.arr c)),(35,Ac k)] rfl ⟨bt,rfl,rfl,rfl,rfl,rfl,rfl,rfl,Af⟩ ?_
  refine BI 31 #[.agg (Aj.arr c),Ac k] (some 36) (.tuple #[i6 ((gd (BV c (k:Int) true) 0).partition),i6 ((gd (BV c (k:Int) true) 0).port)]) (fun w32 hw32=>Y5 w32 c (k:Int) (hc.ext (hw32.ext rfl) (fun _ h=>h))) (fun n33 (hn34:n30≤n33) => ?_)
  refine Cc 4 6 [] [[o0,o0,o0,o0,o0],[o0,(a1 5),o0,o0,(oi k),o0]] [Qb b7,DJ k,k<c.Ah.xs.length,Di] [(1,pt z),(Be z),(Cj b7),(FB c),(30,Ac k),(5,Ac k),(7,i6 ((gd (BV c (k:Int) true) 0).port)),(42,i6 ((gd (BV c (k:Int) true) 0).partition)),(44,.pointer (some ⟨b6,0+G5 5 k+2,none⟩))] rfl ⟨rfl,rfl,(by omega),rfl,Af⟩ ?_
  refine MK 4 k 2 (NP c k) (⟨0,0,(gd (BV c (k:Int) true) 0).partition,0,(⟨none,0,[]⟩:Sl Bh)⟩:Au) Au.cells z 91 5 b6 c.Ah.xs.length c.Ah.xs.length (i6 ((gd (BV c (k:Int) true) 0).partition)) none (by first | omega | (rw[List.length_set];omega)) (by rw[csUp_at (by omega)];rfl) ?_
  refine Cc 3 6 [] [[],[o0,(a1 5),o0,o0,(oi k),o0]] [Qb b7,DJ k,k<c.Ah.xs.length,Di] [(1,pt z),(Be z),(Cj b7),(FB c),(30,Ac k),(48,i6 ((gd (BV c (k:Int) true) 0).port)),(50,.pointer (some ⟨b6,0+G5 5 k+3,none⟩))] rfl ⟨rfl,rfl,(by omega),rfl,Af⟩ ?_
  refine MK 4 k 3 ((NP c k).set k (⟨0,0,(gd (BV c (k:Int) true) 0).partition,0,(⟨none,0,[]⟩:Sl Bh)⟩:Au)) (⟨0,0,(gd (BV c (k:Int) true) 0).partition,(gd (BV c (k:Int) true) 0).port,(⟨none,0,[]⟩:Sl Bh)⟩:Au) Au.cells z 91 5 b6 c.Ah.xs.length c.Ah.xs.length (i6 ((gd (BV c (k:Int) true) 0).port)) none (by first | omega | (rw[List.length_set];omega)) (by rw[LU (by first | omega | (rw[List.length_set];omega))];rfl) ?_
  refine Cc 5 0 [] [[],[(ov (i6 ((k+1:Nat):Int))),o0]] [Wr ((k:Int)+1) (((k+1:Nat):Int))] [(1,pt z),(Be z),(Cj b7),(FB c),(30,i6 ((k+1:Nat):Int))] rfl ⟨CB,Af⟩ ?_
  refine Cf (fun a w' hs=>⟨c.Ah.xs.length - (k+1),by omega,n33,(k+1),rfl,by omega,by omega,by(try dsimp only[Hw,CX,CQ,G9,FB,Be,Cj,G7]at hs ⊢);rw[←Zar];simp only[List.set_set]at hs;exact hs⟩)
 refine Az 16 1 [0] [[oF],[o0],[(an 7 1)]] [BF ((k:Int)<(c.Ah.xs.length:Int)),Qb z,Qb z,Qb z,Qb z,Qb z,Qb z,Qb z] [(1,pt z),(Be z),(Cj b7),(8,i6 0),(52,.agg (Aj.arr c))] rfl ⟨bf,rfl,rfl,rfl,rfl,rfl,rfl,rfl,Af⟩ ?_
 refine l_call [] [] 32 #[.agg (Aj.arr c)] (some 53) Af ?_
 intro w35 hw35
 refine(Yl w35 c (hc.ext (hw35.ext rfl) (fun _ h=>h)) hok).mono ?_
 rintro e w36 ⟨ax37,cp38,rfl,hSw36,hkw36⟩
 have hnw36:n30≤w36.heap.size:=Ik hw35 hkw36
 rw[hw35.size]at hSw36
 refine⟨_,_,rfl,hw35.SC hkw36, ?_⟩
 refine Cc 12 0 [] [[o0],[o0,(a1 1),(ov (i6 (16*c.Kernel))),o0],[o0,o0,o0]] [Qb z,Wr ((16:Int)*c.Kernel) (16*c.Kernel)] [(Be z),(Cj b7),(8,i6 0),(Fa c cp38 ax37),(10,i6 (16*c.Kernel)),(CV c),(59,i6 0)] rfl ⟨rfl,CB,Af⟩ ?_
 have hkc:k=c.Ah.xs.length:=by omega
 refine Zf z 99 3 Bh.cells c.Ah.xs.length ?_
 refine Zf z 3 1 (fun x:Int=>[i6 x]) c.Aa.xs.length ?_
 refine DY (fun m a w'=>∃ (n40:Nat) (mm:Nat) (psG:List Ap) (csG:List Au),m=(CP c).length - mm∧w36.heap.size≤n40∧(mm≤(CP c).length)∧(psG.length=c.Aa.xs.length)∧(csG.length=c.Ah.xs.length)∧(psG.map nP=(BK c mm).ps)∧(csG.map nC=(BK c mm).cs)∧St 190 [(Be z),(Cj b7),(8,i6 ((BK c mm).ch)),(Fa c cp38 ax37),(10,i6 ((BK c mm).fin)),(CV c),(59,Ac mm)] [] ⟨w,n40,[(Ak w),(CQ c z),(CX z),(Eu c b5 z psG),(Es c b6 z csG),(EM b7 c mm b5 b6),(mid n30 w36),(EE z csG),(EG z psG)]⟩ a w') ((CP c).length - 0) ?_ ?_
 ·intro a w' hs;exact⟨w36.heap.size,0,(List.replicate c.Aa.xs.length (⟨0,0,0,0,(⟨none,0,[]⟩:Sl Int)⟩:Ap)),(NP c k),rfl,Nat.le_refl _,Nat.zero_le _,List.length_replicate,YN,(by rw[List.map_replicate];apply List.ext_getElem (by simp[BK,F0]);intro i h1 h2;simp[BK,F0,nP]),(by rw[hkc,csUp_all];show List.map nC ((List.range _).map (Qz c))=(List.range _).map (Qz c);rw[List.map_map];rfl),by(try dsimp only[EM,Hw,CX,CQ,G9,Eu,Es,EG,EE,FB,CV,Fa,Be,Cj,G7]at hs ⊢);rw[csUp_nil,List.map_replicate];exact hs⟩
 rintro m a w' ⟨n40,mm,psG,csG,rfl,hn39,hkmm,hlp,hlc,hps,hcs,hs⟩
 refine(?_:G Tryd.prog 190 [(Be z),(Cj b7),(8,i6 ((BK c mm).ch)),(Fa c cp38 ax37),(10,i6 ((BK c mm).fin)),(CV c),(59,Ac mm)] [] ⟨w,n40,[(Ak w),(CQ c z),(CX z),(Eu c b5 z psG),(Es c b6 z csG),(EM b7 c mm b5 b6),(mid n30 w36),(EE z csG),(EG z psG)]⟩ _ _ _) a w' hs
 clear hs a w'
 have hpln:=pieces_len hfine
 have hch:=XX hfine mm (by omega)
 have hfin:mm<(CP c).length∨((BK c mm).fin+16 - 1) / 16=DD c c.Aa.xs.length:=if e:mm<(CP c).length then .inl e else .inr (by rw[show mm=(CP c).length by omega];exact(WA hfine).2.2.2)
 have htb:=Ql hfine c.Aa.xs.length (Nat.le_refl _)
 have htp:=XA hfine c.Aa.xs.length
 refine DW ?_
 by_cases h41:(mm:Int)<(((CP c).length:Nat):Int)
 ·refine Az 14 0 [1] [[oT],[o0,o0]] [BT ((mm:Int)<(((CP c).length:Nat):Int))] [(Be z),(Cj b7),(8,i6 ((BK c mm).ch)),(Fa c cp38 ax37),(CV c),(59,Ac mm),(11,Ac mm)] rfl ⟨bt,Af⟩ ?_
  obtain⟨b42,o43,ha44,hF46,hc45⟩:=((⟨hSw36,Za0 hfine⟩:J7 Bl.cells 5 Bl.ok _ _ _)).1.all (show 0<(CP c).length by omega)
  replace ha44:ax37=some ⟨b42,o43,none⟩:=ha44
  refine Ku [(Be z),(Cj b7),(8,i6 ((BK c mm).ch)),(D7 c b42 o43 cp38),(CV c),(59,Ac mm),(11,Ac mm)] (by(try dsimp only[EM,Hw,CX,CQ,G9,Eu,Es,EG,EE,D7,FB,CV,Fa,Be,Cj,G7]);simp only[ha44]) ?_
  have hc47:=hc45 mm (show mm<(CP c).length by omega)
  have he48:=((⟨hSw36,Za0 hfine⟩:J7 Bl.cells 5 Bl.ok _ _ _)).2 mm (show mm<(CP c).length by omega)
  obtain⟨y49,hy49⟩:∃ y_,y_=gd (⟨ax37,cp38,CP c⟩:Sl Bl).xs mm:=⟨_,rfl⟩
  rw[←hy49]at he48 hc47
  have hPc:=Yn hfine (show mm<(CP c).length by omega);rw[←hy49]at hPc;unfold U7 at hPc
  refine q_c 17 0 [] [[o0,o0,(oi mm),(oa [.via 6 (i6 y49.At),.via 6 (i6 y49.Size),.via 6 (i6 y49.A8.Kind),.via 6 (i6 y49.A8.Index),.via 6 (i6 y49.A8.Port)]),o0,(an 5 9)],[o0,(a1 9),o0,(a1 9),(ov (i6 (y49.At+y49.Size))),o0],[o0,o0,(a1 9),o0],[o0,o0,(a1 9)]] [DJ mm,mm<(CP c).length,Di,∀ w',Ch.holds (mid n30 w36) w'→w'.cell? ⟨b42,o43+mm*5,none⟩=some (i6 y49.At),∀ w',Ch.holds (mid n30 w36) w'→w'.cell? ⟨b42,o43+mm*5+1,none⟩=some (i6 y49.Size),∀ w',Ch.holds (mid n30 w36) w'→w'.cell? ⟨b42,o43+mm*5+2,none⟩=some (i6 y49.A8.Kind),∀ w',Ch.holds (mid n30 w36) w'→w'.cell? ⟨b42,o43+mm*5+3,none⟩=some (i6 y49.A8.Index),∀ w',Ch.holds (mid n30 w36) w'→w'.cell? ⟨b42,o43+mm*5+4,none⟩=some (i6 y49.A8.Port),Qb n40,Qb n40,Qb n40,Qb n40,Qb n40,Qb n40,Qb n40,Wr ((y49.At:Int)+y49.Size) (y49.At+y49.Size),Qb n40,Qb n40] [(Be z),(Cj b7),(8,i6 ((BK c mm).ch)),(D7 c b42 o43 cp38),(CV c),(59,Ac mm),(Gw n40),(Dj y49),(13,i6 y49.A8.Index),(76,i6 y49.A8.Kind)] ⟨w,n40+1,[(Ak w),(CQ c z),(CX z),(Eu c b5 z psG),(Es c b6 z csG),(EM b7 c mm b5 b6),(mid n30 w36),(EE z csG),(EG z psG),(I5 y49 n40)]⟩ rfl ⟨rfl,(by omega),rfl,LJ hF46 (hc47 0 _ rfl),LJ hF46 (hc47 1 _ rfl),LJ hF46 (hc47 2 _ rfl),LJ hF46 (hc47 3 _ rfl),LJ hF46 (hc47 4 _ rfl),rfl,rfl,rfl,rfl,rfl,rfl,rfl,CB,rfl,rfl,Af⟩ ?_
  by_cases h50:(y49.A8.Kind:Int)=2
  ·refine q_c 11 0 [1] [[oT,o0],[o0,(a1 9),o0,(a1 5)],[(ov (i6 ((mm+1:Nat):Int))),o0]] [ET y49.A8.Kind 2,Qb n40,Qb b7,Wr ((mm:Int)+1) (((mm+1:Nat):Int))] [(Be z),(Cj b7),(8,i6 ((BK c mm).ch)),(D7 c b42 o43 cp38),(CV c),(EI mm),(Dj y49)] ⟨w,n40+1,[(Ak w),(CQ c z),(CX z),(Eu c b5 z psG),(Es c b6 z csG),(TC b7 c b5 b6 y49),(mid n30 w36),(EE z csG),(EG z psG),(I5 y49 n40)]⟩ rfl ⟨et,rfl,rfl,CB,Af⟩ ?_
   refine BX [0,1,2,3,4,5,6,7,8] [(Ak w),(CQ c z),(CX z),(Eu c b5 z psG),(Es c b6 z csG),(TC b7 c b5 b6 y49),(mid n30 w36),(EE z csG),(EG z psG)] rfl rfl ?_
   have hT:=IP (c:=c) (m:=mm) (by omega)
   rw[←hy49,st2 _ _ (by omega)]at hT
   refine FT [2,4,8,9,10,58,59] [(Be z),(Cj b7),(8,i6 ((BK c mm).ch)),(Fa c cp38 ax37),(Dj y49),(CV c),(EI mm)] (by(try dsimp only[EM,TC,Hw,CX,I5,CQ,G9,Eu,Es,EG,EE,D7,FB,CV,Fa,EI,Be,Gw,Dj,Cj,G7]);simp only[ha44];rfl) ?_
   refine Cf (fun a w' hs=>⟨(CP c).length - (mm+1),by omega,(n40+1),(mm+1),psG,csG,rfl,by omega,by omega,hlp,hlc,by rw[hT];exact hps,by rw[hT];exact hcs,by(try dsimp only[EM,TC,Hw,CX,I5,CQ,G9,Eu,Es,EG,EE,D7,FB,CV,Fa,EI,Be,Gw,Dj,Cj,G7]at hs ⊢);rw[hT];exact hs⟩)
  refine Az 5 0 [0] [[oF,o0]] [EF y49.A8.Kind 2] [(Be z),(Cj b7),(8,i6 ((BK c mm).ch)),(D7 c b42 o43 cp38),(CV c),(59,Ac mm),(Gw n40),(Dj y49),(13,i6 y49.A8.Index),(76,i6 y49.A8.Kind),(77,.bool false)] rfl ⟨ef,Af⟩ ?_
  by_cases h51:(y49.A8.Kind:Int)=3
  ·refine Az 5 7 [1] [[oT,o0],[o0,(a1 5),o0,o0,(a1 9),(oi ((y49.A8.Index).toNat)),o0]] [ET y49.A8.Kind 3,Qb b7,Qb n40,(y49.A8.Index:Int)=(((y49.A8.Index).toNat:Nat):Int),(y49.A8.Index).toNat<c.Aa.xs.length,Di] [(Be z),(Cj b7),(8,i6 ((BK c mm).ch)),(D7 c b42 o43 cp38),(CV c),(59,Ac mm),(Dj y49),(88,i6 y49.At),(90,.pointer (some ⟨b5,0+G5 5 ((y49.A8.Index).toNat),none⟩))] rfl ⟨et,rfl,rfl,(by omega),(by omega),rfl,Af⟩ ?_
   obtain⟨y52,hy52⟩:∃ y,y=gd psG ((y49.A8.Index).toNat):=⟨_,rfl⟩
   refine MK 3 ((y49.A8.Index).toNat) 0 psG (⟨y49.At,y52.MM,y52.State,y52.Root,(⟨y52.Tables.a,y52.Tables.cap,y52.Tables.xs⟩:Sl Int)⟩:Ap) Ap.cells z 70 5 b5 c.Aa.xs.length c.Aa.xs.length (i6 y49.At) none (by first | omega | (rw[List.length_set];omega)) (by rw[←hy52];rfl) ?_
   refine Cc 6 0 [] [[],[(ov (i6 ((mm+1:Nat):Int))),o0]] [Wr ((mm:Int)+1) (((mm+1:Nat):Int))] [(Be z),(Cj b7),(8,i6 ((BK c mm).ch)),(D7 c b42 o43 cp38),(CV c),(EI mm),(Dj y49)] rfl ⟨CB,Af⟩ ?_
   refine BX [0,1,2,3,4,5,6,7,8] [(Ak w),(CQ c z),(CX z),(Ci z 70 5 Ap.cells (.slice (some ⟨b5,0,none⟩) c.Aa.xs.length c.Aa.xs.length) (psG.set ((y49.A8.Index).toNat) (⟨y49.At,y52.MM,y52.State,y52.Root,(⟨y52.Tables.a,y52.Tables.cap,y52.Tables.xs⟩:Sl Int)⟩:Ap))),(Es c b6 z csG),(EM b7 c mm b5 b6),(mid n30 w36),(EE z csG),(EG z psG)] rfl rfl ?_
   have hT:=IP (c:=c) (m:=mm) (by omega)
   rw[←hy49,st3 _ _ (by omega)]at hT
   refine FT [2,4,8,9,10,58,59] [(Be z),(Cj b7),(8,i6 ((BK c mm).ch)),(Fa c cp38 ax37),(Dj y49),(CV c),(EI mm)] (by(try dsimp only[EM,TC,Hw,CX,I5,CQ,G9,Eu,Es,EG,EE,D7,FB,CV,Fa,EI,Be,Gw,Dj,Cj,G7]);simp only[ha44];rfl) ?_
   refine Cf (fun a w' hs=>⟨(CP c).length - (mm+1),by omega,(n40+1),(mm+1),(psG.set ((y49.A8.Index).toNat) (⟨y49.At,y52.MM,y52.State,y52.Root,(⟨y52.Tables.a,y52.Tables.cap,y52.Tables.xs⟩:Sl Int)⟩:Ap)),csG,rfl,by omega,by omega,by rw[List.length_set];exact hlp,hlc,by rw[hT];show _=List.set _ _ _;rw[List.map_set,←hps,KY (by omega),←hy52];rfl,by rw[hT];exact hcs,by(try dsimp only[EM,TC,Hw,CX,CQ,G9,Eu,Es,EG,EE,D7,FB,CV,Fa,EI,Be,Gw,Dj,Cj,G7]at hs ⊢);rw[hT,PX (f:=Ap.Tables) (by omega) (by rw[←hy52])];exact hs⟩)
  refine Az 5 0 [0] [[oF,o0]] [EF y49.A8.Kind 3] [(Be z),(Cj b7),(8,i6 ((BK c mm).ch)),(D7 c b42 o43 cp38),(CV c),(59,Ac mm),(Gw n40),(Dj y49),(13,i6 y49.A8.Index),(76,i6 y49.A8.Kind),(82,.bool false)] rfl ⟨ef,Af⟩ ?_
  by_cases h53:(y49.A8.Kind:Int)=4
  ·refine Az 5 7 [1] [[oT,o0],[o0,(a1 5),o0,o0,(a1 9),(oi ((y49.A8.Index).toNat)),o0]] [ET y49.A8.Kind 4,Qb b7,Qb n40,(y49.A8.Index:Int)=(((y49.A8.Index).toNat:Nat):Int),(y49.A8.Index).toNat<c.Aa.xs.length,Di] [(Be z),(Cj b7),(8,i6 ((BK c mm).ch)),(D7 c b42 o43 cp38),(CV c),(59,Ac mm),(Dj y49),(97,i6 y49.At),(99,.pointer (some ⟨b5,0+G5 5 ((y49.A8.Index).toNat)+1,none⟩))] rfl ⟨et,rfl,rfl,(by omega),(by omega),rfl,Af⟩ ?_
   obtain⟨y54,hy54⟩:∃ y,y=gd psG ((y49.A8.Index).toNat):=⟨_,rfl⟩
   refine MK 3 ((y49.A8.Index).toNat) 1 psG (⟨y54.Lock,y49.At,y54.State,y54.Root,(⟨y54.Tables.a,y54.Tables.cap,y54.Tables.xs⟩:Sl Int)⟩:Ap) Ap.cells z 70 5 b5 c.Aa.xs.length c.Aa.xs.length (i6 y49.At) none (by first | omega | (rw[List.length_set];omega)) (by rw[←hy54];rfl) ?_
   refine Cc 6 0 [] [[],[(ov (i6 ((mm+1:Nat):Int))),o0]] [Wr ((mm:Int)+1) (((mm+1:Nat):Int))] [(Be z),(Cj b7),(8,i6 ((BK c mm).ch)),(D7 c b42 o43 cp38),(CV c),(EI mm),(Dj y49)] rfl ⟨CB,Af⟩ ?_
   refine BX [0,1,2,3,4,5,6,7,8] [(Ak w),(CQ c z),(CX z),(Ci z 70 5 Ap.cells (.slice (some ⟨b5,0,none⟩) c.Aa.xs.length c.Aa.xs.length) (psG.set ((y49.A8.Index).toNat) (⟨y54.Lock,y49.At,y54.State,y54.Root,(⟨y54.Tables.a,y54.Tables.cap,y54.Tables.xs⟩:Sl Int)⟩:Ap))),(Es c b6 z csG),(EM b7 c mm b5 b6),(mid n30 w36),(EE z csG),(EG z psG)] rfl rfl ?_
   have hT:=IP (c:=c) (m:=mm) (by omega)
   rw[←hy49,st4 _ _ (by omega)]at hT
   refine FT [2,4,8,9,10,58,59] [(Be z),(Cj b7),(8,i6 ((BK c mm).ch)),(Fa c cp38 ax37),(Dj y49),(CV c),(EI mm)] (by(try dsimp only[EM,Hw,CX,CQ,G9,Eu,Es,EG,EE,D7,FB,CV,Fa,EI,Be,Gw,Dj,Cj,G7]);simp only[ha44];rfl) ?_
   refine Cf (fun a w' hs=>⟨(CP c).length - (mm+1),by omega,(n40+1),(mm+1),(psG.set ((y49.A8.Index).toNat) (⟨y54.Lock,y49.At,y54.State,y54.Root,(⟨y54.Tables.a,y54.Tables.cap,y54.Tables.xs⟩:Sl Int)⟩:Ap)),csG,rfl,by omega,by omega,by rw[List.length_set];exact hlp,hlc,by rw[hT];show _=List.set _ _ _;rw[List.map_set,←hps,KY (by omega),←hy54];rfl,by rw[hT];exact hcs,by(try dsimp only[EM,Hw,CX,CQ,G9,Eu,Es,EG,EE,D7,FB,CV,Fa,EI,Be,Gw,Dj,Cj,G7]at hs ⊢);rw[hT,PX (f:=Ap.Tables) (by omega) (by rw[←hy54])];exact hs⟩)
  refine Az 5 0 [0] [[oF,o0]] [EF y49.A8.Kind 4] [(Be z),(Cj b7),(8,i6 ((BK c mm).ch)),(D7 c b42 o43 cp38),(CV c),(59,Ac mm),(Gw n40),(Dj y49),(13,i6 y49.A8.Index),(76,i6 y49.A8.Kind),(91,.bool false)] rfl ⟨ef,Af⟩ ?_
  by_cases h55:(y49.A8.Kind:Int)=5
  ·refine Az 5 7 [1] [[oT,o0],[o0,(a1 5),o0,o0,(a1 9),(oi ((y49.A8.Index).toNat)),o0]] [ET y49.A8.Kind 5,Qb b7,Qb n40,(y49.A8.Index:Int)=(((y49.A8.Index).toNat:Nat):Int),(y49.A8.Index).toNat<c.Aa.xs.length,Di] [(Be z),(Cj b7),(8,i6 ((BK c mm).ch)),(D7 c b42 o43 cp38),(CV c),(59,Ac mm),(Dj y49),(106,i6 y49.At),(108,.pointer (some ⟨b5,0+G5 5 ((y49.A8.Index).toNat)+2,none⟩))] rfl ⟨et,rfl,rfl,(by omega),(by omega),rfl,Af⟩ ?_
   obtain⟨y56,hy56⟩:∃ y,y=gd psG ((y49.A8.Index).toNat):=⟨_,rfl⟩
   refine MK 3 ((y49.A8.Index).toNat) 2 psG (⟨y56.Lock,y56.MM,y49.At,y56.Root,(⟨y56.Tables.a,y56.Tables.cap,y56.Tables.xs⟩:Sl Int)⟩:Ap) Ap.cells z 70 5 b5 c.Aa.xs.length c.Aa.xs.length (i6 y49.At) none (by first | omega | (rw[List.length_set];omega)) (by rw[←hy56];rfl) ?_
   refine Cc 6 0 [] [[],[(ov (i6 ((mm+1:Nat):Int))),o0]] [Wr ((mm:Int)+1) (((mm+1:Nat):Int))] [(Be z),(Cj b7),(8,i6 ((BK c mm).ch)),(D7 c b42 o43 cp38),(CV c),(EI mm),(Dj y49)] rfl ⟨CB,Af⟩ ?_
   refine BX [0,1,2,3,4,5,6,7,8] [(Ak w),(CQ c z),(CX z),(Ci z 70 5 Ap.cells (.slice (some ⟨b5,0,none⟩) c.Aa.xs.length c.Aa.xs.length) (psG.set ((y49.A8.Index).toNat) (⟨y56.Lock,y56.MM,y49.At,y56.Root,(⟨y56.Tables.a,y56.Tables.cap,y56.Tables.xs⟩:Sl Int)⟩:Ap))),(Es c b6 z csG),(EM b7 c mm b5 b6),(mid n30 w36),(EE z csG),(EG z psG)] rfl rfl ?_
   have hT:=IP (c:=c) (m:=mm) (by omega)
   rw[←hy49,st5 _ _ (by omega)]at hT
   refine FT [2,4,8,9,10,58,59] [(Be z),(Cj b7),(8,i6 ((BK c mm).ch)),(Fa c cp38 ax37),(Dj y49),(CV c),(EI mm)] (by(try dsimp only[EM,Hw,CX,CQ,G9,Eu,Es,EG,EE,D7,FB,CV,Fa,EI,Be,Gw,Dj,Cj,G7]);simp only[ha44];rfl) ?_
   refine Cf (fun a w' hs=>⟨(CP c).length - (mm+1),by omega,(n40+1),(mm+1),(psG.set ((y49.A8.Index).toNat) (⟨y56.Lock,y56.MM,y49.At,y56.Root,(⟨y56.Tables.a,y56.Tables.cap,y56.Tables.xs⟩:Sl Int)⟩:Ap)),csG,rfl,by omega,by omega,by rw[List.length_set];exact hlp,hlc,by rw[hT];show _=List.set _ _ _;rw[List.map_set,←hps,KY (by omega),←hy56];rfl,by rw[hT];exact hcs,by(try dsimp only[EM,Hw,CX,CQ,G9,Eu,Es,EG,EE,D7,FB,CV,Fa,EI,Be,Gw,Dj,Cj,G7]at hs ⊢);rw[hT,PX (f:=Ap.Tables) (by omega) (by rw[←hy56])];exact hs⟩)
  refine Az 5 0 [0] [[oF,o0]] [EF y49.A8.Kind 5] [(Be z),(Cj b7),(8,i6 ((BK c mm).ch)),(D7 c b42 o43 cp38),(CV c),(59,Ac mm),(Gw n40),(Dj y49),(13,i6 y49.A8.Index),(76,i6 y49.A8.Kind),(100,.bool false)] rfl ⟨ef,Af⟩ ?_
  by_cases h57:(y49.A8.Kind:Int)=6
  ·refine Az 6 7 [1] [[oT,o0],[o0,(a1 5),o0,o0,(a1 9),(oi ((y49.A8.Index).toNat)),o0]] [ET y49.A8.Kind 6,Qb b7,Qb n40,(y49.A8.Index:Int)=(((y49.A8.Index).toNat:Nat):Int),(y49.A8.Index).toNat<c.Ah.xs.length,Di] [(Be z),(Cj b7),(D7 c b42 o43 cp38),(CV c),(59,Ac mm),(Dj y49),(13,i6 y49.A8.Index),(115,i6 y49.At),(117,.pointer (some ⟨b6,0+G5 5 ((y49.A8.Index).toNat),none⟩))] rfl ⟨et,rfl,rfl,(by omega),(by omega),rfl,Af⟩ ?_
   obtain⟨y58,hy58⟩:∃ y,y=gd csG ((y49.A8.Index).toNat):=⟨_,rfl⟩
   refine MK 4 ((y49.A8.Index).toNat) 0 csG (⟨y49.At,y58.NC,y58.Partition,y58.Port,(⟨y58.Dw.a,y58.Dw.cap,y58.Dw.xs⟩:Sl Bh)⟩:Au) Au.cells z 91 5 b6 c.Ah.xs.length c.Ah.xs.length (i6 y49.At) none (by first | omega | (rw[List.length_set];omega)) (by rw[←hy58];rfl) ?_
   refine Cc 9 0 [] [[],[o0,o0],[(ov (i6 ((mm+1:Nat):Int))),o0]] [Wr ((mm:Int)+1) (((mm+1:Nat):Int))] [(Be z),(Cj b7),(D7 c b42 o43 cp38),(CV c),(EI mm),(Dj y49),(8,i6 y49.A8.Index)] rfl ⟨CB,Af⟩ ?_
   refine BX [0,1,2,3,4,5,6,7,8] [(Ak w),(CQ c z),(CX z),(Eu c b5 z psG),(Ci z 91 5 Au.cells (.slice (some ⟨b6,0,none⟩) c.Ah.xs.length c.Ah.xs.length) (csG.set ((y49.A8.Index).toNat) (⟨y49.At,y58.NC,y58.Partition,y58.Port,(⟨y58.Dw.a,y58.Dw.cap,y58.Dw.xs⟩:Sl Bh)⟩:Au))),(EM b7 c mm b5 b6),(mid n30 w36),(EE z csG),(EG z psG)] rfl rfl ?_
   have hT:=IP (c:=c) (m:=mm) (by omega)
   rw[←hy49,st6 _ _ (by omega)]at hT
   refine FT [2,4,8,9,10,58,59] [(Be z),(Cj b7),(8,i6 y49.A8.Index),(Fa c cp38 ax37),(Dj y49),(CV c),(EI mm)] (by(try dsimp only[EM,Hw,CX,CQ,G9,Eu,Es,EG,EE,D7,FB,CV,Fa,EI,Be,Gw,Dj,Cj,G7]);simp only[ha44];rfl) ?_
   refine Cf (fun a w' hs=>⟨(CP c).length - (mm+1),by omega,(n40+1),(mm+1),psG,(csG.set ((y49.A8.Index).toNat) (⟨y49.At,y58.NC,y58.Partition,y58.Port,(⟨y58.Dw.a,y58.Dw.cap,y58.Dw.xs⟩:Sl Bh)⟩:Au)),rfl,by omega,by omega,hlp,by rw[List.length_set];exact hlc,by rw[hT];exact hps,by rw[hT];show _=List.set _ _ _;rw[List.map_set,←hcs,KY (by omega),←hy58];rfl,by(try dsimp only[EM,Hw,CX,CQ,G9,Eu,Es,EG,EE,D7,FB,CV,Fa,EI,Be,Gw,Dj,Cj,G7]at hs ⊢);rw[hT,PX (f:=Au.Dw) (by omega) (by rw[←hy58])];exact hs⟩)
  refine Az 5 0 [0] [[oF,o0]] [EF y49.A8.Kind 6] [(Be z),(Cj b7),(8,i6 ((BK c mm).ch)),(D7 c b42 o43 cp38),(CV c),(59,Ac mm),(Gw n40),(Dj y49),(13,i6 y49.A8.Index),(76,i6 y49.A8.Kind),(109,.bool false)] rfl ⟨ef,Af⟩ ?_
  by_cases h59:(y49.A8.Kind:Int)=7
  ·refine Az 5 7 [1] [[oT,o0],[o0,(a1 5),o0,o0,(a1 9),(oi ((y49.A8.Index).toNat)),o0]] [ET y49.A8.Kind 7,Qb b7,Qb n40,(y49.A8.Index:Int)=(((y49.A8.Index).toNat:Nat):Int),(y49.A8.Index).toNat<c.Ah.xs.length,Di] [(Be z),(Cj b7),(8,i6 ((BK c mm).ch)),(D7 c b42 o43 cp38),(CV c),(59,Ac mm),(Dj y49),(125,i6 y49.At),(127,.pointer (some ⟨b6,0+G5 5 ((y49.A8.Index).toNat)+1,none⟩))] rfl ⟨et,rfl,rfl,(by omega),(by omega),rfl,Af⟩ ?_
   obtain⟨y60,hy60⟩:∃ y,y=gd csG ((y49.A8.Index).toNat):=⟨_,rfl⟩
   refine MK 4 ((y49.A8.Index).toNat) 1 csG (⟨y60.Lock,y49.At,y60.Partition,y60.Port,(⟨y60.Dw.a,y60.Dw.cap,y60.Dw.xs⟩:Sl Bh)⟩:Au) Au.cells z 91 5 b6 c.Ah.xs.length c.Ah.xs.length (i6 y49.At) none (by first | omega | (rw[List.length_set];omega)) (by rw[←hy60];rfl) ?_
   refine Cc 6 0 [] [[],[(ov (i6 ((mm+1:Nat):Int))),o0]] [Wr ((mm:Int)+1) (((mm+1:Nat):Int))] [(Be z),(Cj b7),(8,i6 ((BK c mm).ch)),(D7 c b42 o43 cp38),(CV c),(EI mm),(Dj y49)] rfl ⟨CB,Af⟩ ?_
   refine BX [0,1,2,3,4,5,6,7,8] [(Ak w),(CQ c z),(CX z),(Eu c b5 z psG),(Ci z 91 5 Au.cells (.slice (some ⟨b6,0,none⟩) c.Ah.xs.length c.Ah.xs.length) (csG.set ((y49.A8.Index).toNat) (⟨y60.Lock,y49.At,y60.Partition,y60.Port,(⟨y60.Dw.a,y60.Dw.cap,y60.Dw.xs⟩:Sl Bh)⟩:Au))),(EM b7 c mm b5 b6),(mid n30 w36),(EE z csG),(EG z psG)] rfl rfl ?_
   have hT:=IP (c:=c) (m:=mm) (by omega)
   rw[←hy49,st7 _ _ (by omega)]at hT
   refine FT [2,4,8,9,10,58,59] [(Be z),(Cj b7),(8,i6 ((BK c mm).ch)),(Fa c cp38 ax37),(Dj y49),(CV c),(EI mm)] (by(try dsimp only[EM,Hw,CX,CQ,G9,Eu,Es,EG,EE,D7,FB,CV,Fa,EI,Be,Gw,Dj,Cj,G7]);simp only[ha44];rfl) ?_
   refine Cf (fun a w' hs=>⟨(CP c).length - (mm+1),by omega,(n40+1),(mm+1),psG,(csG.set ((y49.A8.Index).toNat) (⟨y60.Lock,y49.At,y60.Partition,y60.Port,(⟨y60.Dw.a,y60.Dw.cap,y60.Dw.xs⟩:Sl Bh)⟩:Au)),rfl,by omega,by omega,hlp,by rw[List.length_set];exact hlc,by rw[hT];exact hps,by rw[hT];show _=List.set _ _ _;rw[List.map_set,←hcs,KY (by omega),←hy60];rfl,by(try dsimp only[EM,Hw,CX,CQ,G9,Eu,Es,EG,EE,D7,FB,CV,Fa,EI,Be,Gw,Dj,Cj,G7]at hs ⊢);rw[hT,PX (f:=Au.Dw) (by omega) (by rw[←hy60])];exact hs⟩)
  refine Az 5 0 [0] [[oF,o0]] [EF y49.A8.Kind 7] [(Be z),(Cj b7),(8,i6 ((BK c mm).ch)),(D7 c b42 o43 cp38),(CV c),(59,Ac mm),(Gw n40),(Dj y49),(13,i6 y49.A8.Index),(76,i6 y49.A8.Kind),(119,.bool false)] rfl ⟨ef,Af⟩ ?_
  by_cases h61:(y49.A8.Kind:Int)=8
  ·refine Az 4 0 [1] [[oT,o0]] [ET y49.A8.Kind 8] [(Be z),(Cj b7),(8,i6 ((BK c mm).ch)),(D7 c b42 o43 cp38),(CV c),(59,Ac mm),(Gw n40),(Dj y49),(13,i6 y49.A8.Index),(76,i6 y49.A8.Kind),(128,.bool true)] rfl ⟨et,Af⟩ ?_
   obtain⟨y62,hy62⟩:∃ y,y=gd csG (((BK c mm).ch).toNat):=⟨_,rfl⟩
   refine YV 7 [0,1,2,3,4,5,6,8,9] z 99 3 Bh.cells (csG.map Au.Dw) (((BK c mm).ch).toNat) y62.Dw (by rw[KY (by omega),←hy62]) (by rw[List.length_map];omega) [(Ak w),(CQ c z),(CX z),(Eu c b5 z psG),(Es c b6 z csG),(EM b7 c mm b5 b6),(mid n30 w36),(EG z psG),(I5 y49 n40)] ?_
   have hbig:y62.Dw.xs.length≤mm:=by have hb:=(Um hfine mm (by omega)).2 (nC y62) (by rw[hy62,←hcs];exact List.mem_map_of_mem (PI (by omega)));exact hb
   refine Eo 20 [0,1,2,3,4,5,6,7,8,9] [(Ak w),(CQ c z),(CX z),(Eu c b5 z psG),(Es c b6 z csG),(EM b7 c mm b5 b6),(mid n30 w36),(EG z psG),(I5 y49 n40),(S9 c mm z csG)] rfl rfl ?_
   refine D6 [(0,o0),(1,(a1 5)),(2,o0),(3,o0),(4,(a1 5)),(5,o0),(6,(oi (((BK c mm).ch).toNat))),(7,o0),(8,(oa [.via 4 (.slice y62.Dw.a y62.Dw.xs.length y62.Dw.cap)])),(9,o0),(10,o0),(11,o0),(12,(a1 8)),(13,o0),(14,(a1 8)),(15,o0)] [2,4,8,9,58,59,10,131,132,138,145] [Qb b7,Qb b7,((BK c mm).ch:Int)=((((BK c mm).ch).toNat:Nat):Int),((BK c mm).ch).toNat<c.Ah.xs.length,Di,∀ w',Ch.holds (Es c b6 z csG) w'→w'.cell? ⟨b6,0+G5 5 (((BK c mm).ch).toNat)+4,none⟩=some (.slice y62.Dw.a y62.Dw.xs.length y62.Dw.cap),Qb n40,Qb n40] (DC 16 5) [(Be z),(Cj b7),(8,i6 ((BK c mm).ch)),(D7 c b42 o43 cp38),(CV c),(59,Ac mm),(Dj y49),(TL c b6),(132,i6 ((BK c mm).ch)),(138,.slice y62.Dw.a y62.Dw.xs.length y62.Dw.cap),(145,.agg #[i6 y49.A8.Index,i6 y49.A8.Port,i6 y49.At])] ⟨rfl,rfl,(by omega),(by omega),rfl,FI (sz:=5) (j:=((BK c mm).ch).toNat) (k:=4) (fun _=>rfl) (by first | omega | (rw[List.length_set];omega)) (by rw[←hy62];rfl),rfl,rfl,Af⟩ ?_
   refine Bv 16 ?_
   refine BC o0 [2,4,8,9,58,59,10,131,132,138,146] [] [(Be z),(Cj b7),(8,i6 ((BK c mm).ch)),(D7 c b42 o43 cp38),(CV c),(59,Ac mm),(Dj y49),(TL c b6),(132,i6 ((BK c mm).ch)),(138,.slice y62.Dw.a y62.Dw.xs.length y62.Dw.cap),(146,.slice (some ⟨n40+1,0,none⟩) 1 1)] ⟨w,n40+2,[(Ak w),(CQ c z),(CX z),(Eu c b5 z psG),(Es c b6 z csG),(EM b7 c mm b5 b6),(mid n30 w36),(EG z psG),(I5 y49 n40),(S9 c mm z csG),(Ci z 99 3 Bh.cells (.slice y62.Dw.a y62.Dw.xs.length y62.Dw.cap) y62.Dw.xs),(UF y49 n40)]⟩ [0,1,2,3,4,5,6,7,8,9] Af (.inr rfl) ?_
   refine Bv 17 ?_
   refine PS z 10 11 y62.Dw.xs [(⟨y49.A8.Index,y49.A8.Port,y49.At⟩:Bh)] Bh.cells 99 3 24 (.slice y62.Dw.a y62.Dw.xs.length y62.Dw.cap) (n40+1) 1 1 #[i6 y49.A8.Index,i6 y49.A8.Port,i6 y49.At] 99 (0,0) true (some 147) [0,1,2,3,4,5,6,7,8,9] (by simp only[List.length_cons,List.length_nil,List.length_append];omega) (show z≤n40+2 by omega) (.inr ⟨rfl,rfl⟩) (fun ax63 cp64 n65 (hn66:n40+2≤n65) => ?_)
   refine Dt [2,4,8,9,58,59,10,131,132,147] [(Be z),(Cj b7),(8,i6 ((BK c mm).ch)),(D7 c b42 o43 cp38),(CV c),(59,Ac mm),(Dj y49),(TL c b6),(132,i6 ((BK c mm).ch)),(147,.slice ax63 ((y62.Dw.xs++[(⟨y49.A8.Index,y49.A8.Port,y49.At⟩:Bh)]).length) cp64)] ?_
   refine D6 [(18,(oi (((BK c mm).ch).toNat))),(19,o0)] [2,4,8,9,58,59,10,147,149] [((BK c mm).ch:Int)=((((BK c mm).ch).toNat:Nat):Int),((BK c mm).ch).toNat<c.Ah.xs.length,Di] (DC 20 1) [(Be z),(Cj b7),(8,i6 ((BK c mm).ch)),(D7 c b42 o43 cp38),(CV c),(59,Ac mm),(Dj y49),(147,.slice ax63 ((y62.Dw.xs++[(⟨y49.A8.Index,y49.A8.Port,y49.At⟩:Bh)]).length) cp64),(149,.pointer (some ⟨b6,0+G5 5 (((BK c mm).ch).toNat)+4,none⟩))] ⟨(by omega),(by omega),rfl,Af⟩ ?_
   refine Bv 20 ?_
   refine RZ 4 (((BK c mm).ch).toNat) 4 csG (⟨y62.Lock,y62.NC,y62.Partition,y62.Port,(⟨ax63,cp64,(y62.Dw.xs++[(⟨y49.A8.Index,y49.A8.Port,y49.At⟩:Bh)])⟩:Sl Bh)⟩:Au) Au.cells z 91 5 b6 c.Ah.xs.length c.Ah.xs.length (.slice ax63 ((y62.Dw.xs++[(⟨y49.A8.Index,y49.A8.Port,y49.At⟩:Bh)]).length) cp64) none [] (by first | omega | (rw[List.length_set];omega)) (by rw[←hy62];rfl) (.inl rfl) ?_
   refine Dt [2,4,8,9,58,59,10] [(Be z),(Cj b7),(8,i6 ((BK c mm).ch)),(D7 c b42 o43 cp38),(CV c),(59,Ac mm),(Dj y49)] ?_
   refine DV 21 [0,1,2,3,4,5,6,7,8,9,10,11] [(Ak w),(CQ c z),(CX z),(Eu c b5 z psG),(Tz c mm b6 y49 z csG y62 ax63 cp64),(EM b7 c mm b5 b6),(mid n30 w36),(EG z psG),(I5 y49 n40),(S9 c mm z csG),(Ci z 99 3 Bh.cells (.slice ax63 ((y62.Dw.xs++[(⟨y49.A8.Index,y49.A8.Port,y49.At⟩:Bh)]).length) cp64) (y62.Dw.xs++[(⟨y49.A8.Index,y49.A8.Port,y49.At⟩:Bh)])),(UF y49 n40)] rfl rfl ?_
   refine Dl ?_
   refine Oi 5 0 [] [[(ov (i6 ((mm+1:Nat):Int))),o0]] [Wr ((mm:Int)+1) (((mm+1:Nat):Int))] [(Be z),(Cj b7),(8,i6 ((BK c mm).ch)),(D7 c b42 o43 cp38),(CV c),(EI mm),(Dj y49)] rfl ⟨CB,Af⟩ ?_
   refine ZM 9 10 [0,1,2,3,4,5,6,7,8,11] z 99 3 Bh.cells (csG.map Au.Dw) (((BK c mm).ch).toNat) (by rw[List.length_map];omega) ax63 cp64 (y62.Dw.xs++[(⟨y49.A8.Index,y49.A8.Port,y49.At⟩:Bh)]) [(Ak w),(CQ c z),(CX z),(Eu c b5 z psG),(Tz c mm b6 y49 z csG y62 ax63 cp64),(EM b7 c mm b5 b6),(mid n30 w36),(EG z psG),(I5 y49 n40),(UF y49 n40)] ?_
   refine BX [0,1,2,3,4,5,6,10,7] [(Ak w),(CQ c z),(CX z),(Eu c b5 z psG),(Tz c mm b6 y49 z csG y62 ax63 cp64),(EM b7 c mm b5 b6),(mid n30 w36),(Hu z 99 3 Bh.cells ((csG.map Au.Dw).set (((BK c mm).ch).toNat) ⟨ax63,cp64,(y62.Dw.xs++[(⟨y49.A8.Index,y49.A8.Port,y49.At⟩:Bh)])⟩)),(EG z psG)] rfl rfl ?_
   have hT:=IP (c:=c) (m:=mm) (by omega)
   rw[←hy49,st8 _ _ (by omega)]at hT
   refine FT [2,4,8,9,10,58,59] [(Be z),(Cj b7),(8,i6 ((BK c mm).ch)),(Fa c cp38 ax37),(Dj y49),(CV c),(EI mm)] (by(try dsimp only[EM,Hw,UF,CX,I5,CQ,Tz,G9,Eu,Es,S9,EG,EE,TL,D7,FB,CV,Fa,EI,Be,Dj,Cj,G7]);simp only[ha44];rfl) ?_
   refine Cf (fun a w' hs=>⟨(CP c).length - (mm+1),by omega,n65,(mm+1),psG,(csG.set (((BK c mm).ch).toNat) (⟨y62.Lock,y62.NC,y62.Partition,y62.Port,(⟨ax63,cp64,(y62.Dw.xs++[(⟨y49.A8.Index,y49.A8.Port,y49.At⟩:Bh)])⟩:Sl Bh)⟩:Au)),rfl,by omega,by omega,hlp,by rw[List.length_set];exact hlc,by rw[hT];exact hps,by rw[hT];show _=List.set _ _ _;rw[List.map_set,←hcs,KY (by omega),←hy62];rfl,by(try dsimp only[EM,Hw,UF,CX,I5,CQ,Tz,G9,Eu,Es,S9,EG,EE,TL,D7,FB,CV,Fa,EI,Be,Dj,Cj,G7]at hs ⊢);rw[hT,List.map_set];exact hs⟩)
  refine Az 5 0 [0] [[oF,o0]] [EF y49.A8.Kind 8] [(Be z),(Cj b7),(8,i6 ((BK c mm).ch)),(D7 c b42 o43 cp38),(CV c),(59,Ac mm),(Gw n40),(Dj y49),(13,i6 y49.A8.Index),(76,i6 y49.A8.Kind),(128,.bool false)] rfl ⟨ef,Af⟩ ?_
  by_cases h67:(y49.A8.Kind:Int)=9
  ·refine Az 5 0 [1] [[oT,o0]] [ET y49.A8.Kind 9] [(Be z),(Cj b7),(8,i6 ((BK c mm).ch)),(D7 c b42 o43 cp38),(CV c),(59,Ac mm),(Gw n40),(Dj y49),(13,i6 y49.A8.Index),(150,.bool true)] rfl ⟨et,Af⟩ ?_
   obtain⟨y68,hy68⟩:∃ y,y=gd psG ((y49.A8.Index).toNat):=⟨_,rfl⟩
   by_cases h69:(y68.Root:Int)=0
   ·refine Az 5 8 [1] [[o0,(a1 5),o0,(oi ((y49.A8.Index).toNat)),o0,(oa [.via 3 (i6 y68.Root)]),oT],[o0,(a1 5),o0,o0,(a1 9),(ov (i6 (y49.At / 16))),(oi ((y49.A8.Index).toNat)),o0]] [Qb b7,(y49.A8.Index:Int)=(((y49.A8.Index).toNat:Nat):Int),(y49.A8.Index).toNat<c.Aa.xs.length,Di,∀ w',Ch.holds (Eu c b5 z psG) w'→w'.cell? ⟨b5,0+G5 5 ((y49.A8.Index).toNat)+3,none⟩=some (i6 y68.Root),ET y68.Root 0,Qb b7,Qb n40,Wr (Int.tdiv (y49.At) 16) (y49.At / 16),(y49.A8.Index:Int)=(((y49.A8.Index).toNat:Nat):Int),(y49.A8.Index).toNat<c.Aa.xs.length,Di] [(Be z),(Cj b7),(8,i6 ((BK c mm).ch)),(D7 c b42 o43 cp38),(CV c),(59,Ac mm),(Dj y49),(164,i6 (y49.At / 16)),(166,.pointer (some ⟨b5,0+G5 5 ((y49.A8.Index).toNat)+3,none⟩))] rfl ⟨rfl,(by omega),(by omega),rfl,FI (sz:=5) (j:=(y49.A8.Index).toNat) (k:=3) (fun _=>rfl) (by first | omega | (rw[List.length_set];omega)) (by rw[←hy68];rfl),et,rfl,rfl,congrArg (Value.int .i64) (Nc (by omega) (by omega) (by omega)),(by omega),(by omega),rfl,Af⟩ ?_
    refine MK 3 ((y49.A8.Index).toNat) 3 psG (⟨y68.Lock,y68.MM,y68.State,y49.At / 16,(⟨y68.Tables.a,y68.Tables.cap,y68.Tables.xs⟩:Sl Int)⟩:Ap) Ap.cells z 70 5 b5 c.Aa.xs.length c.Aa.xs.length (i6 (y49.At / 16)) none (by first | omega | (rw[List.length_set];omega)) (by rw[←hy68];rfl) ?_
    refine Cc 6 0 [] [[],[(ov (i6 ((mm+1:Nat):Int))),o0]] [Wr ((mm:Int)+1) (((mm+1:Nat):Int))] [(Be z),(Cj b7),(8,i6 ((BK c mm).ch)),(D7 c b42 o43 cp38),(CV c),(EI mm),(Dj y49)] rfl ⟨CB,Af⟩ ?_
    refine BX [0,1,2,3,4,5,6,7,8] [(Ak w),(CQ c z),(CX z),(Ci z 70 5 Ap.cells (.slice (some ⟨b5,0,none⟩) c.Aa.xs.length c.Aa.xs.length) (psG.set ((y49.A8.Index).toNat) (⟨y68.Lock,y68.MM,y68.State,y49.At / 16,(⟨y68.Tables.a,y68.Tables.cap,y68.Tables.xs⟩:Sl Int)⟩:Ap))),(Es c b6 z csG),(EM b7 c mm b5 b6),(mid n30 w36),(EE z csG),(EG z psG)] rfl rfl ?_
    have hT:=IP (c:=c) (m:=mm) (by omega)
    rw[←hy49,st9 _ _ (by omega)]at hT
    refine FT [2,4,8,9,10,58,59] [(Be z),(Cj b7),(8,i6 ((BK c mm).ch)),(Fa c cp38 ax37),(Dj y49),(CV c),(EI mm)] (by(try dsimp only[EM,Hw,CX,CQ,G9,Eu,Es,EG,EE,D7,FB,CV,Fa,EI,Be,Gw,Dj,Cj,G7]);simp only[ha44];rfl) ?_
    refine Cf (fun a w' hs=>⟨(CP c).length - (mm+1),by omega,(n40+1),(mm+1),(psG.set ((y49.A8.Index).toNat) (⟨y68.Lock,y68.MM,y68.State,y49.At / 16,(⟨y68.Tables.a,y68.Tables.cap,y68.Tables.xs⟩:Sl Int)⟩:Ap)),csG,rfl,by omega,by omega,by rw[List.length_set];exact hlp,hlc,by rw[hT];show _=List.set _ _ _;rw[List.map_set,←hps,KY (by omega),←hy68];rw[tabF_pos (p:=nP y68) (show y68.Root=0 from by omega)];rfl,by rw[hT];exact hcs,by(try dsimp only[EM,Hw,CX,CQ,G9,Eu,Es,EG,EE,D7,FB,CV,Fa,EI,Be,Gw,Dj,Cj,G7]at hs ⊢);rw[hT,PX (f:=Ap.Tables) (by omega) (by rw[←hy68])];exact hs⟩)
   refine Az 4 0 [0] [[o0,(a1 5),o0,(oi ((y49.A8.Index).toNat)),o0,(oa [.via 3 (i6 y68.Root)]),oF]] [Qb b7,(y49.A8.Index:Int)=(((y49.A8.Index).toNat:Nat):Int),(y49.A8.Index).toNat<c.Aa.xs.length,Di,∀ w',Ch.holds (Eu c b5 z psG) w'→w'.cell? ⟨b5,0+G5 5 ((y49.A8.Index).toNat)+3,none⟩=some (i6 y68.Root),EF y68.Root 0] [(Be z),(Cj b7),(8,i6 ((BK c mm).ch)),(D7 c b42 o43 cp38),(CV c),(59,Ac mm),(Gw n40),(Dj y49),(13,i6 y49.A8.Index),(158,.bool false)] rfl ⟨rfl,(by omega),(by omega),rfl,FI (sz:=5) (j:=(y49.A8.Index).toNat) (k:=3) (fun _=>rfl) (by first | omega | (rw[List.length_set];omega)) (by rw[←hy68];rfl),ef,Af⟩ ?_
   refine YV 8 [0,1,2,3,4,5,6,7,9] z 3 1 (fun x:Int=>[i6 x]) (psG.map Ap.Tables) ((y49.A8.Index).toNat) y68.Tables (by rw[KY (by omega),←hy68]) (by rw[List.length_map];omega) [(Ak w),(CQ c z),(CX z),(Eu c b5 z psG),(Es c b6 z csG),(EM b7 c mm b5 b6),(mid n30 w36),(EE z csG),(I5 y49 n40)] ?_
   have hbig:y68.Tables.xs.length≤mm:=by have hb:=(Um hfine mm (by omega)).1 (nP y68) (by rw[hy68,←hps];exact List.mem_map_of_mem (PI (by omega)));exact hb
   refine Eo 16 [0,1,2,3,4,5,6,7,8,9] [(Ak w),(CQ c z),(CX z),(Eu c b5 z psG),(Es c b6 z csG),(EM b7 c mm b5 b6),(mid n30 w36),(EE z csG),(I5 y49 n40),(SQ y49 z psG)] rfl rfl ?_
   refine D6 [(0,o0),(1,(a1 5)),(2,o0),(3,o0),(4,(a1 5)),(5,o0),(6,(oi ((y49.A8.Index).toNat))),(7,o0),(8,(oa [.via 3 (.slice y68.Tables.a y68.Tables.xs.length y68.Tables.cap)])),(9,o0),(10,(a1 8)),(11,(ov (i6 (y49.At / 16))))] [2,4,8,9,58,59,10,168,169,175,178] [Qb b7,Qb b7,(y49.A8.Index:Int)=(((y49.A8.Index).toNat:Nat):Int),(y49.A8.Index).toNat<c.Aa.xs.length,Di,∀ w',Ch.holds (Eu c b5 z psG) w'→w'.cell? ⟨b5,0+G5 5 ((y49.A8.Index).toNat)+4,none⟩=some (.slice y68.Tables.a y68.Tables.xs.length y68.Tables.cap),Qb n40,Wr (Int.tdiv (y49.At) 16) (y49.At / 16)] (DC 12 5) [(Be z),(Cj b7),(8,i6 ((BK c mm).ch)),(D7 c b42 o43 cp38),(CV c),(59,Ac mm),(Dj y49),(Tq c b5),(169,i6 y49.A8.Index),(175,.slice y68.Tables.a y68.Tables.xs.length y68.Tables.cap),(178,i6 (y49.At / 16))] ⟨rfl,rfl,(by omega),(by omega),rfl,FI (sz:=5) (j:=(y49.A8.Index).toNat) (k:=4) (fun _=>rfl) (by first | omega | (rw[List.length_set];omega)) (by rw[←hy68];rfl),rfl,congrArg (Value.int .i64) (Nc (by omega) (by omega) (by omega)),Af⟩ ?_
   refine Bv 12 ?_
   refine BC o0 [2,4,8,9,58,59,10,168,169,175,179] [] [(Be z),(Cj b7),(8,i6 ((BK c mm).ch)),(D7 c b42 o43 cp38),(CV c),(59,Ac mm),(Dj y49),(Tq c b5),(169,i6 y49.A8.Index),(175,.slice y68.Tables.a y68.Tables.xs.length y68.Tables.cap),(179,.slice (some ⟨n40+1,0,none⟩) 1 1)] ⟨w,n40+2,[(Ak w),(CQ c z),(CX z),(Eu c b5 z psG),(Es c b6 z csG),(EM b7 c mm b5 b6),(mid n30 w36),(EE z csG),(I5 y49 n40),(SQ y49 z psG),(Ci z 3 1 (fun x:Int=>[i6 x]) (.slice y68.Tables.a y68.Tables.xs.length y68.Tables.cap) y68.Tables.xs),(bk (n40+1) #[i6 (y49.At / 16)] 3)]⟩ [0,1,2,3,4,5,6,7,8,9] Af (.inr rfl) ?_
   refine Bv 13 ?_
   refine PS z 10 11 y68.Tables.xs [y49.At / 16] (fun x:Int=>[i6 x]) 3 1 8 (.slice y68.Tables.a y68.Tables.xs.length y68.Tables.cap) (n40+1) 1 1 #[i6 (y49.At / 16)] 3 (0,0) true (some 180) [0,1,2,3,4,5,6,7,8,9] (by simp only[List.length_cons,List.length_nil,List.length_append];omega) (show z≤n40+2 by omega) (.inr ⟨rfl,rfl⟩) (fun ax70 cp71 n72 (hn73:n40+2≤n72) => ?_)
   refine Dt [2,4,8,9,58,59,10,168,169,180] [(Be z),(Cj b7),(8,i6 ((BK c mm).ch)),(D7 c b42 o43 cp38),(CV c),(59,Ac mm),(Dj y49),(Tq c b5),(169,i6 y49.A8.Index),(180,.slice ax70 ((y68.Tables.xs++[y49.At / 16]).length) cp71)] ?_
   refine D6 [(14,(oi ((y49.A8.Index).toNat))),(15,o0)] [2,4,8,9,58,59,10,180,182] [(y49.A8.Index:Int)=(((y49.A8.Index).toNat:Nat):Int),(y49.A8.Index).toNat<c.Aa.xs.length,Di] (DC 16 1) [(Be z),(Cj b7),(8,i6 ((BK c mm).ch)),(D7 c b42 o43 cp38),(CV c),(59,Ac mm),(Dj y49),(180,.slice ax70 ((y68.Tables.xs++[y49.At / 16]).length) cp71),(182,.pointer (some ⟨b5,0+G5 5 ((y49.A8.Index).toNat)+4,none⟩))] ⟨(by omega),(by omega),rfl,Af⟩ ?_
   refine Bv 16 ?_
   refine RZ 3 ((y49.A8.Index).toNat) 4 psG (⟨y68.Lock,y68.MM,y68.State,y68.Root,(⟨ax70,cp71,(y68.Tables.xs++[y49.At / 16])⟩:Sl Int)⟩:Ap) Ap.cells z 70 5 b5 c.Aa.xs.length c.Aa.xs.length (.slice ax70 ((y68.Tables.xs++[y49.At / 16]).length) cp71) none [] (by first | omega | (rw[List.length_set];omega)) (by rw[←hy68];rfl) (.inl rfl) ?_
   refine Dt [2,4,8,9,58,59,10] [(Be z),(Cj b7),(8,i6 ((BK c mm).ch)),(D7 c b42 o43 cp38),(CV c),(59,Ac mm),(Dj y49)] ?_
   refine DV 17 [0,1,2,3,4,5,6,7,8,9,10,11] [(Ak w),(CQ c z),(CX z),(TF c b5 y49 z psG y68 ax70 cp71),(Es c b6 z csG),(EM b7 c mm b5 b6),(mid n30 w36),(EE z csG),(I5 y49 n40),(SQ y49 z psG),(Ci z 3 1 (fun x:Int=>[i6 x]) (.slice ax70 ((y68.Tables.xs++[y49.At / 16]).length) cp71) (y68.Tables.xs++[y49.At / 16])),(bk (n40+1) #[i6 (y49.At / 16)] 3)] rfl rfl ?_
   refine Dl ?_
   refine Oi 5 0 [] [[(ov (i6 ((mm+1:Nat):Int))),o0]] [Wr ((mm:Int)+1) (((mm+1:Nat):Int))] [(Be z),(Cj b7),(8,i6 ((BK c mm).ch)),(D7 c b42 o43 cp38),(CV c),(EI mm),(Dj y49)] rfl ⟨CB,Af⟩ ?_
   refine ZM 9 10 [0,1,2,3,4,5,6,7,8,11] z 3 1 (fun x:Int=>[i6 x]) (psG.map Ap.Tables) ((y49.A8.Index).toNat) (by rw[List.length_map];omega) ax70 cp71 (y68.Tables.xs++[y49.At / 16]) [(Ak w),(CQ c z),(CX z),(TF c b5 y49 z psG y68 ax70 cp71),(Es c b6 z csG),(EM b7 c mm b5 b6),(mid n30 w36),(EE z csG),(I5 y49 n40),(bk (n40+1) #[i6 (y49.At / 16)] 3)] ?_
   refine BX [0,1,2,3,4,5,6,7,10] [(Ak w),(CQ c z),(CX z),(TF c b5 y49 z psG y68 ax70 cp71),(Es c b6 z csG),(EM b7 c mm b5 b6),(mid n30 w36),(EE z csG),(Hu z 3 1 (fun x:Int=>[i6 x]) ((psG.map Ap.Tables).set ((y49.A8.Index).toNat) ⟨ax70,cp71,(y68.Tables.xs++[y49.At / 16])⟩))] rfl rfl ?_
   have hT:=IP (c:=c) (m:=mm) (by omega)
   rw[←hy49,st9 _ _ (by omega)]at hT
   refine FT [2,4,8,9,10,58,59] [(Be z),(Cj b7),(8,i6 ((BK c mm).ch)),(Fa c cp38 ax37),(Dj y49),(CV c),(EI mm)] (by(try dsimp only[EM,Hw,CX,I5,CQ,TF,G9,SQ,Eu,Es,EG,EE,Tq,D7,FB,CV,Fa,EI,Be,Dj,Cj,G7]);simp only[ha44];rfl) ?_
   refine Cf (fun a w' hs=>⟨(CP c).length - (mm+1),by omega,n72,(mm+1),(psG.set ((y49.A8.Index).toNat) (⟨y68.Lock,y68.MM,y68.State,y68.Root,(⟨ax70,cp71,(y68.Tables.xs++[y49.At / 16])⟩:Sl Int)⟩:Ap)),csG,rfl,by omega,by omega,by rw[List.length_set];exact hlp,hlc,by rw[hT];show _=List.set _ _ _;rw[List.map_set,←hps,KY (by omega),←hy68];rw[tabF_neg (p:=nP y68) (show ¬ y68.Root=0 from by omega)];rfl,by rw[hT];exact hcs,by(try dsimp only[EM,Hw,CX,I5,CQ,TF,G9,SQ,Eu,Es,EG,EE,Tq,D7,FB,CV,Fa,EI,Be,Dj,Cj,G7]at hs ⊢);rw[hT,List.map_set];exact hs⟩)
  refine Az 10 0 [0] [[oF,o0],[(ov (i6 ((mm+1:Nat):Int))),o0]] [EF y49.A8.Kind 9,Wr ((mm:Int)+1) (((mm+1:Nat):Int))] [(Be z),(Cj b7),(8,i6 ((BK c mm).ch)),(D7 c b42 o43 cp38),(CV c),(EI mm),(Dj y49)] rfl ⟨ef,CB,Af⟩ ?_
  exfalso;omega
 refine q_c 19 0 [0] [[oF],[o0,(ov (i6 (((BK c mm).fin)+16))),(ov (i6 ((((BK c mm).fin)+16) - 1))),(ov (i6 (((((BK c mm).fin)+16) - 1) / 16))),o0,(a1 5)],[(an 4 5),(an 4 2),o0]] [BF ((mm:Int)<(((CP c).length:Nat):Int)),Wr (((BK c mm).fin:Int)+16) (((BK c mm).fin)+16),Wr ((((BK c mm).fin)+16:Int) - 1) ((((BK c mm).fin)+16) - 1),Wr (Int.tdiv ((((BK c mm).fin)+16) - 1) 16) (((((BK c mm).fin)+16) - 1) / 16),Qb b7,Qb b7,Qb b7,Qb b7,Qb b7,Qb (z+1),Qb (z+1),Qb (z+1),Qb (z+1)] [(Be z),(3,i6 0)] ⟨w,n40,[(Ak w),(CQ c z),(bk (z+1) #[i6 ((BK c mm).bar),.slice (some ⟨b5,0,none⟩) c.Aa.xs.length c.Aa.xs.length,.slice (some ⟨b6,0,none⟩) c.Ah.xs.length c.Ah.xs.length,i6 (((((BK c mm).fin)+16) - 1) / 16)] 60),(Eu c b5 z psG),(Es c b6 z csG),(bk b7 #[i6 ((BK c mm).bar),.slice (some ⟨b5,0,none⟩) c.Aa.xs.length c.Aa.xs.length,.slice (some ⟨b6,0,none⟩) c.Ah.xs.length c.Ah.xs.length,i6 (((((BK c mm).fin)+16) - 1) / 16)] 60),(mid n30 w36),(EE z csG),(EG z psG)]⟩ rfl ⟨bf,CB,CB,congrArg (Value.int .i64) (Nc (by omega) (by omega) (by omega)),rfl,rfl,rfl,rfl,rfl,rfl,rfl,rfl,rfl,Af⟩ ?_
 refine AO [.at 2,.at 2,.at 2,.at 2] [Qb (z+1),Qb (z+1),Qb (z+1),Qb (z+1)] (.tuple #[.agg #[i6 ((BK c mm).bar),.slice (some ⟨b5,0,none⟩) c.Aa.xs.length c.Aa.xs.length,.slice (some ⟨b6,0,none⟩) c.Ah.xs.length c.Ah.xs.length,i6 (((((BK c mm).fin)+16) - 1) / 16)],i6 0]) ⟨rfl,rfl,rfl,rfl,Af⟩ ?_
 intro w74 hw74
 have hm:mm=(CP c).length:=by omega
 subst hm
 have hL:Ud c ⟨(BK c (CP c).length).bar,⟨(some ⟨b5,0,none⟩),c.Aa.xs.length,psG⟩,⟨(some ⟨b6,0,none⟩),c.Ah.xs.length,csG⟩,((BK c (CP c).length).fin+16 - 1) / 16⟩:=lay_of hfine hps hcs
 have hO:Ur z w74 ⟨(BK c (CP c).length).bar,⟨(some ⟨b5,0,none⟩),c.Aa.xs.length,psG⟩,⟨(some ⟨b6,0,none⟩),c.Ah.xs.length,csG⟩,((BK c (CP c).length).fin+16 - 1) / 16⟩:=⟨w,by
  have h4:=hw74.pick [3,4,7,8] rfl rfl
  rw[hw74.size]
  unfold layS Sl.val
  simp only[hlp,hlc]
  exact h4⟩
 refine⟨_, ?_,hL,hz ▸ ZaN hfine hL hO,hz ▸ hO,Bi hw74⟩
 simp only[FK.arr,hlp,hlc]
end Go.Proofs.YtjdmhijaanmccaaDoor.Ly
namespace Go.Proofs.YtjdmhijaanmccaaDoor.Dv
open Go Go.Proofs.YtjdmhijaanmccaaDoor.Eng Go.Proofs.YtjdmhijaanmccaaDoor.Mem Go.Proofs.YtjdmhijaanmccaaDoor.Ly Go.Proofs.YtjdmhijaanmccaaDoor.Ad
set_option linter.unusedSimpArgs false
set_option linter.unusedVariables false
set_option maxRecDepth 100000
section
variable (w2 w16:World)(lay17:FK)(mq3:Nat)(ax4:Option Addr)(cp5 z:Nat)(w:World)
abbrev qsl7_0:=bk (w2.heap.size+1) #[i6 16,i6 400,i6 8,i6 4,.slice (some ⟨w2.heap.size+4,0,none⟩) 1 1,.slice (some ⟨w2.heap.size+7,0,none⟩) 1 1,.slice none 0 0] 26
abbrev Zaw:=bk (w2.heap.size+2) #[i6 16,i6 400,i6 8,i6 4,.slice (some ⟨w2.heap.size+4,0,none⟩) 1 1,.slice (some ⟨w2.heap.size+7,0,none⟩) 1 1,.slice none 0 0] 26
abbrev Zaq:=bk (w2.heap.size+5) #[.string (⟨#[97]⟩),i6 0,i6 0,i6 0,i6 1,i6 1,.slice (some ⟨w2.heap.size+6,0,none⟩) 1 1,.slice none 0 0] 52
abbrev ZaC:=bk (w2.heap.size+7) #[.string (⟨#[97]⟩),i6 0,i6 0,i6 0,i6 1,i6 1,.slice (some ⟨w2.heap.size+6,0,none⟩) 1 1,.slice none 0 0] 52
abbrev ZaH:=bk (w2.heap.size+6) #[i6 0,i6 1,i6 2,i6 7] 103
abbrev Zaz:=bk (w2.heap.size+4) #[.slice (some ⟨w2.heap.size+3,0,none⟩) 1 1] 65
abbrev ZaB:=bk (w2.heap.size+3) #[i6 0,i6 300,i6 100] 101
abbrev qsl7_7:Ch:= .blk w16.heap.size (.cells (FK.arr lay17) 60 (0,0)) true
abbrev U8:Ch:= .blk w2.heap.size (.cells #[i6 0] 3 (0,0)) true
abbrev Ry:=bk mq3 #[.slice ax4 16 cp5] 81
abbrev PT:=Ci z 54 1 (fun x:Int=>[Value.int .u32 x]) (.slice ax4 16 cp5) (List.replicate 16 0)
abbrev V7:=[(Ak w),(Ry mq3 ax4 cp5),(PT ax4 cp5 z),(U8 w2),(qsl7_0 w2),(Zaw w2),(ZaB w2),(Zaz w2),(Zaq w2),(ZaH w2),(ZaC w2),(mid (w2.heap.size+8) w16),(qsl7_7 w16 lay17)]
end
theorem none_calls(w:World)(hL:Iq w):Calls Tryd.prog 5 #[] w fun e w'=>e = .returned (.bool true)∧CZ (fun _=>False) w w':=by
 obtain⟨z,hz⟩:∃ z,z=w.heap.size:=⟨_,rfl⟩
 refine Cb (args:=[]) 75 ⟨w,z,[(Ak w)]⟩ Tryd.func5 rfl (by kernel_rfl) (by kernel_rfl) (ES hz) ?_
 refine Ee [] [] ?_
 refine Az 10 0 [] [[o0],[o0]] [] [(1,.pointer none)] rfl Af ?_
 refine l_call [] [] 10 #[i6 1] (some 11) Af ?_
 intro w1 hw1
 refine(Ug w1 1 (by omega) (by omega)).mono ?_
 rintro e w2 ⟨mq3,ax4,cp5,rfl,hqw2,w6,hOw2,hkw2⟩
 have hnw2:z≤w2.heap.size:=Ik hw1 hkw2
 rw[show w1.heap.size=z from hw1.size]at hOw2 hqw2
 refine⟨_,_,rfl,hw1.ZaE hkw2 hOw2 (Y3 hOw2 hqw2), ?_⟩
 refine Cc 4 1 [] [[o0,o0,o0,o0,o0],[o0]] [] [(1,.pointer none),(2,pt mq3),(15,.pointer none)] rfl Af ?_
 refine l_call [] [] 13 #[.pointer none,i6 0,i6 0,.int .u32 0] (some 16) Af ?_
 intro w7 hw7
 refine Cb (args:=[.pointer none,i6 0,i6 0,.int .u32 0]) 31 ⟨w,w2.heap.size,[(Ak w),(Ry mq3 ax4 cp5),(PT ax4 cp5 z)]⟩ Tryd.func13 rfl (by kernel_rfl) (by kernel_rfl) hw7 ?_
 refine Az 15 0 [1] [[o0,o0],[o0,o0],[o0,o0]] [] [(8,i6 0),(9,.int .u32 0)] rfl Af ?_
 refine AO [] [] (.tuple #[i6 0,.int .u32 0]) Af ?_
 intro w8 hw8
 refine⟨_,_,rfl,hw8, ?_⟩
 refine Cc 4 2 [] [[o0,o0,o0,o0,o0],[o0,o0]] [] [(1,.pointer none),(2,pt mq3),(4,i6 0),(5,.int .u32 0),(20,.pointer none),(21,pt mq3)] rfl Af ?_
 refine l_call [] [] 12 #[.pointer none,pt mq3,i6 0] (some 22) Af ?_
 intro w9 hw9
 refine Cb (args:=[.pointer none,pt mq3,i6 0]) 57 ⟨w,w2.heap.size,[(Ak w),(Ry mq3 ax4 cp5),(PT ax4 cp5 z)]⟩ Tryd.func12 rfl (by kernel_rfl) (by kernel_rfl) hw9 ?_
 refine q_c 7 4 [] [[o0,o0],[o0,o0,o0,o0]] [] [(0,.pointer none),(1,pt mq3),(2,i6 0),(10,.pointer none),(11,pt mq3),(13,.slice (some ⟨w2.heap.size,0,none⟩) 1 1)] ⟨w,w2.heap.size+1,[(Ak w),(Ry mq3 ax4 cp5),(PT ax4 cp5 z),(U8 w2)]⟩ rfl Af ?_
 refine l_call [] [] 27 #[.pointer none,pt mq3,.slice (some ⟨w2.heap.size,0,none⟩) 1 1] (some 14) Af ?_
 intro w10 hw10
 refine Cb (args:=[.pointer none,pt mq3,.slice (some ⟨w2.heap.size,0,none⟩) 1 1]) 40 ⟨w,w2.heap.size+1,[(Ak w),(Ry mq3 ax4 cp5),(PT ax4 cp5 z),(U8 w2)]⟩ Tryd.func27 rfl (by kernel_rfl) (by kernel_rfl) hw10 ?_
 refine Az 15 0 [1] [[o0],[o0,o0,o0,o0],[o0]] [] [(6,i6 3)] rfl Af ?_
 refine AO [] [] (i6 3) Af ?_
 intro w11 hw11
 refine⟨_,_,rfl,hw11, ?_⟩
 refine Cc 12 0 [1] [[o0],[o0,o0],[o0,o0,o0]] [] [(6,i6 0),(7,i6 3)] rfl Af ?_
 refine AO [] [] (.tuple #[i6 0,i6 3]) Af ?_
 intro w12 hw12
 refine⟨_,_,rfl,hw12, ?_⟩
 refine Cc 4 0 [] [[o0,o0,o0,o0,o0]] [] [(1,.pointer none),(2,pt mq3),(4,i6 0),(5,.int .u32 0),(6,i6 0),(7,i6 3)] rfl Af ?_
 refine l_call [] [] 15 #[] (some 26) Af ?_
 intro w13 hw13
 refine Cb (args:=[]) 16 ⟨w,w2.heap.size+1,[(Ak w),(Ry mq3 ax4 cp5),(PT ax4 cp5 z),(U8 w2)]⟩ Tryd.func15 rfl (by kernel_rfl) (by kernel_rfl) hw13 ?_
 refine q_c 29 0 [] [[o0],[o0,o0,(an 7 5)],[o0,o0,o0,o0,(a1 5)],[o0,o0,(an 8 8)],[o0,o0,o0,(a1 8)],[(an 8 8),o0,o0,(a1 5)],[(an 7 5),(an 7 4)]] [Qb (w2.heap.size+2),Qb (w2.heap.size+2),Qb (w2.heap.size+2),Qb (w2.heap.size+2),Qb (w2.heap.size+2),Qb (w2.heap.size+2),Qb (w2.heap.size+2),Qb (w2.heap.size+2),Qb (w2.heap.size+5),Qb (w2.heap.size+5),Qb (w2.heap.size+5),Qb (w2.heap.size+5),Qb (w2.heap.size+5),Qb (w2.heap.size+5),Qb (w2.heap.size+5),Qb (w2.heap.size+5),Qb (w2.heap.size+5),Qb (w2.heap.size+5),Qb (w2.heap.size+5),Qb (w2.heap.size+5),Qb (w2.heap.size+5),Qb (w2.heap.size+5),Qb (w2.heap.size+5),Qb (w2.heap.size+5),Qb (w2.heap.size+5),Qb (w2.heap.size+2),Qb (w2.heap.size+2),Qb (w2.heap.size+2),Qb (w2.heap.size+2),Qb (w2.heap.size+2),Qb (w2.heap.size+2),Qb (w2.heap.size+2),Qb (w2.heap.size+2),Qb (w2.heap.size+1),Qb (w2.heap.size+1),Qb (w2.heap.size+1),Qb (w2.heap.size+1),Qb (w2.heap.size+1),Qb (w2.heap.size+1),Qb (w2.heap.size+1)] [(0,pt (w2.heap.size+1))] ⟨w,w2.heap.size+8,[(Ak w),(Ry mq3 ax4 cp5),(PT ax4 cp5 z),(U8 w2),(qsl7_0 w2),(Zaw w2),(ZaB w2),(Zaz w2),(Zaq w2),(ZaH w2),(ZaC w2)]⟩ rfl ⟨rfl,rfl,rfl,rfl,rfl,rfl,rfl,rfl,rfl,rfl,rfl,rfl,rfl,rfl,rfl,rfl,rfl,rfl,rfl,rfl,rfl,rfl,rfl,rfl,rfl,rfl,rfl,rfl,rfl,rfl,rfl,rfl,rfl,rfl,rfl,rfl,rfl,rfl,rfl,rfl,Af⟩ ?_
 refine AO [.at 4,.at 4,.at 4,.at 4,.at 4,.at 4,.at 4] [Qb (w2.heap.size+1),Qb (w2.heap.size+1),Qb (w2.heap.size+1),Qb (w2.heap.size+1),Qb (w2.heap.size+1),Qb (w2.heap.size+1),Qb (w2.heap.size+1)] (.agg #[i6 16,i6 400,i6 8,i6 4,.slice (some ⟨w2.heap.size+4,0,none⟩) 1 1,.slice (some ⟨w2.heap.size+7,0,none⟩) 1 1,.slice none 0 0]) ⟨rfl,rfl,rfl,rfl,rfl,rfl,rfl,Af⟩ ?_
 intro w14 hw14
 refine⟨_,_,rfl,hw14, ?_⟩
 refine DZ [1,2,4,5,6,7,26] [(1,.pointer none),(2,pt mq3),(4,i6 0),(5,.int .u32 0),(6,i6 0),(7,i6 3),(26,.agg #[i6 16,i6 400,i6 8,i6 4,.slice (some ⟨w2.heap.size+4,0,none⟩) 1 1,.slice (some ⟨w2.heap.size+7,0,none⟩) 1 1,.slice none 0 0])] ?_
 refine l_call [] [] 14 #[.agg #[i6 16,i6 400,i6 8,i6 4,.slice (some ⟨w2.heap.size+4,0,none⟩) 1 1,.slice (some ⟨w2.heap.size+7,0,none⟩) 1 1,.slice none 0 0]] (some 27) Af ?_
 intro w15 hw15
 refine(rof_yes w15 (⟨16,400,8,4,(⟨some ⟨w2.heap.size+4,0,none⟩,1,([(⟨some ⟨w2.heap.size+3,0,none⟩,1,([(⟨0,300,100⟩:BA)]:List BA)⟩:Sl BA)]:List (Sl BA))⟩:Sl (Sl BA)),(⟨some ⟨w2.heap.size+7,0,none⟩,1,([(⟨⟨#[97]⟩,0,0,0,1,1,(⟨some ⟨w2.heap.size+6,0,none⟩,1,([(⟨0,1,2,7⟩:BD)]:List BD)⟩:Sl BD),(⟨none,0,[]⟩:Sl DK)⟩:Aq)]:List Aq)⟩:Sl Aq),(⟨none,0,[]⟩:Sl AP)⟩:Aj) (⟨(Ej (n:=16)),(Ej (n:=400)),(Ej (n:=8)),(Ej (n:=4)),(Ld hw15 (cells:=(fun x:Sl BA=>[Sl.val x])) (sz:=1) (ok:=(fun F W x=>J7 BA.cells 3 BA.ok F W x)) (i:=7) (fun _=>rfl) ([(⟨some ⟨w2.heap.size+3,0,none⟩,1,([(⟨0,300,100⟩:BA)]:List BA)⟩:Sl BA)]:List (Sl BA)) (KZ (p:=(fun F W x=>J7 BA.cells 3 BA.ok F W x) Any w15) (Ld hw15 (cells:=BA.cells) (sz:=3) (ok:=BA.ok) (i:=6) (fun _=>rfl) ([(⟨0,300,100⟩:BA)]:List BA) (KZ (p:=BA.ok Any w15) (⟨(Ej (n:=0)),(Ej (n:=300)),(Ej (n:=100))⟩:BA.ok Any w15 ⟨0,300,100⟩) Nb)) Nb)),(Ld hw15 (cells:=Aq.cells) (sz:=8) (ok:=Aq.ok) (i:=10) (fun _=>rfl) ([(⟨⟨#[97]⟩,0,0,0,1,1,(⟨some ⟨w2.heap.size+6,0,none⟩,1,([(⟨0,1,2,7⟩:BD)]:List BD)⟩:Sl BD),(⟨none,0,[]⟩:Sl DK)⟩:Aq)]:List Aq) (KZ (p:=Aq.ok Any w15) (⟨(show(⟨#[97]⟩:ByteArray).size≤140737488351232 by decide),(Ej (n:=0)),(Ej (n:=0)),(Ej (n:=0)),(Ej (n:=1)),(Ej (n:=1)),(Ld hw15 (cells:=BD.cells) (sz:=4) (ok:=BD.ok) (i:=9) (fun _=>rfl) ([(⟨0,1,2,7⟩:BD)]:List BD) (KZ (p:=BD.ok Any w15) (⟨(Ej (n:=0)),(Ej (n:=1)),(Ej (n:=2)),(Ej (n:=7))⟩:BD.ok Any w15 ⟨0,1,2,7⟩) Nb)),PZ⟩:Aq.ok Any w15 ⟨⟨#[97]⟩,0,0,0,1,1,(⟨some ⟨w2.heap.size+6,0,none⟩,1,([(⟨0,1,2,7⟩:BD)]:List BD)⟩:Sl BD),(⟨none,0,[]⟩:Sl DK)⟩) Nb)),PZ⟩:Aj.ok Any w15 ⟨16,400,8,4,(⟨some ⟨w2.heap.size+4,0,none⟩,1,([(⟨some ⟨w2.heap.size+3,0,none⟩,1,([(⟨0,300,100⟩:BA)]:List BA)⟩:Sl BA)]:List (Sl BA))⟩:Sl (Sl BA)),(⟨some ⟨w2.heap.size+7,0,none⟩,1,([(⟨⟨#[97]⟩,0,0,0,1,1,(⟨some ⟨w2.heap.size+6,0,none⟩,1,([(⟨0,1,2,7⟩:BD)]:List BD)⟩:Sl BD),(⟨none,0,[]⟩:Sl DK)⟩:Aq)]:List Aq)⟩:Sl Aq),(⟨none,0,[]⟩:Sl AP)⟩) (by kernel_rfl)).mono ?_
 rintro e w16 ⟨lay17,rfl,hIlay17,hOlay17, -,hkw16⟩
 have hnw16:w2.heap.size+8≤w16.heap.size:=Ik hw15 hkw16
 rw[hw15.size]at hOlay17;have hpllay17:lay17.Aa.xs.length=(⟨16,400,8,4,(⟨some ⟨w2.heap.size+4,0,none⟩,1,([(⟨some ⟨w2.heap.size+3,0,none⟩,1,([(⟨0,300,100⟩:BA)]:List BA)⟩:Sl BA)]:List (Sl BA))⟩:Sl (Sl BA)),(⟨some ⟨w2.heap.size+7,0,none⟩,1,([(⟨⟨#[97]⟩,0,0,0,1,1,(⟨some ⟨w2.heap.size+6,0,none⟩,1,([(⟨0,1,2,7⟩:BD)]:List BD)⟩:Sl BD),(⟨none,0,[]⟩:Sl DK)⟩:Aq)]:List Aq)⟩:Sl Aq),(⟨none,0,[]⟩:Sl AP)⟩:Aj).Aa.xs.length:=hIlay17.pl
 refine⟨_,_,rfl,hw15.SC hkw16, ?_⟩
 replace hpllay17:lay17.Aa.xs.length=1:=hpllay17
 refine Gi 4 17 [] [[o0,o0,o0,o0,(an 4 12),o0],[o0,o0,o0,o0,o0,o0,o0,o0,o0,o0,o0,o0,o0,o0,o0,o0,o0]] [Qb w16.heap.size,Qb w16.heap.size,Qb w16.heap.size,Qb w16.heap.size] [(1,.pointer none),(8,pt w16.heap.size),(9,i6 0),(44,.bool true),(45,.pointer none),(46,pt mq3)] ⟨w,w16.heap.size+1,(V7 w2 w16 lay17 mq3 ax4 cp5 z w)⟩ rfl ⟨rfl,rfl,rfl,rfl,Af⟩ ?_
 refine l_call [] [] 11 #[.pointer none,pt mq3,.slice none 0 0] (some 47) Af ?_
 intro w18 hw18
 refine Cb (args:=[.pointer none,pt mq3,.slice none 0 0]) 37 ⟨w,w16.heap.size+1,(V7 w2 w16 lay17 mq3 ax4 cp5 z w)⟩ Tryd.func11 rfl (by kernel_rfl) (by kernel_rfl) hw18 ?_
 refine Az 7 3 [] [[o0],[o0,o0,o0]] [] [(0,.pointer none),(1,pt mq3),(2,.slice none 0 0),(11,.pointer none),(12,pt mq3),(13,.slice none 0 0)] rfl Af ?_
 refine l_call [] [] 27 #[.pointer none,pt mq3,.slice none 0 0] (some 14) Af ?_
 intro w19 hw19
 refine Cb (args:=[.pointer none,pt mq3,.slice none 0 0]) 40 ⟨w,w16.heap.size+1,(V7 w2 w16 lay17 mq3 ax4 cp5 z w)⟩ Tryd.func27 rfl (by kernel_rfl) (by kernel_rfl) hw19 ?_
 refine Az 15 0 [1] [[o0],[o0,o0,o0,o0],[o0]] [] [(6,i6 3)] rfl Af ?_
 refine AO [] [] (i6 3) Af ?_
 intro w20 hw20
 refine⟨_,_,rfl,hw20, ?_⟩
 refine Cc 12 0 [1] [[o0],[o0,o0],[o0,o0]] [] [(6,i6 3)] rfl Af ?_
 refine AO [] [] (i6 3) Af ?_
 intro w21 hw21
 refine⟨_,_,rfl,hw21, ?_⟩
 refine Cc 0 4 [] [[o0,o0,o0,o0]] [] [(8,pt w16.heap.size),(9,i6 0),(50,.bool true),(51,.pointer none)] rfl Af ?_
 refine l_call [] [] 16 #[.pointer none] (some 52) Af ?_
 intro w22 hw22
 refine Cb (args:=[.pointer none]) 31 ⟨w,w16.heap.size+1,(V7 w2 w16 lay17 mq3 ax4 cp5 z w)⟩ Tryd.func16 rfl (by kernel_rfl) (by kernel_rfl) hw22 ?_
 refine Az 15 0 [1] [[o0],[o0,o0],[o0]] [] [(2,.slice none 0 0)] rfl Af ?_
 refine AO [] [] (.slice none 0 0) Af ?_
 intro w23 hw23
 refine⟨_,_,rfl,hw23, ?_⟩
 refine Cc 0 20 [] [[o0,o0,o0,o0,o0,o0,o0,o0,o0,(a1 12),o0,oT,o0,o0,o0,o0,o0,o0,o0,o0]] [Qb w16.heap.size,ET (lay17.Aa.xs.length:Int) 1] [(72,.bool true)] rfl ⟨rfl,et,Af⟩ ?_
 refine BI 7 #[] (some 73) (.bool true) (fun w24 hw24=>Zp w24 (hL.ext (hw24.ext rfl))) (fun n25 (hn26:w16.heap.size+1≤n25) => ?_)
 refine Cc 3 0 [] [[o0,o0]] [] [(0,.bool true)] rfl Af ?_
 refine AO [] [] (.bool true) Af ?_
 intro w27 hw27
 exact⟨rfl,Bi hw27⟩
end Go.Proofs.YtjdmhijaanmccaaDoor.Dv
namespace Go.Proofs.YtjdmhijaanmccaaDoor.Row
open Go.ChangeShapes Go.WideShapes Go.ChangeAt Go.RowKit
set_option linter.unusedVariables false
section
variable {H:Type}{enc:TypeId×Value→H}{P:Program}
theorem Yi(hl:laidOutB P=true){W W':World}(hb:Below W.heap.size W W') :
   ∀ {ts:List TypeId} {vs:List Value} {ds:List (DataW H)} {ps:List MemPlace},
     ts.all (fun t=>P.readableRec t&&decide (t<P.types.size))=true→(∀ x∈ps,x.block<W.heap.size) →
     DataW.TrodAll enc P W 0 (fun _=>true) true ts vs ds ps→DataW.TrodAll enc P W' 0 (fun b=>decide (b<W.heap.size)) true ts vs ds ps:=by
 intro ts
 induction ts with
 | nil =>
   intro vs ds ps _ _ h
   obtain⟨rfl,rfl,rfl⟩:=trodAll_nil h
   exact trodAll_mk0
 | cons t ts ih =>
   intro vs ds ps ht hlt h
   obtain⟨v0,vs0,d0,ds0,p0,q0,rfl,rfl,rfl,h0,r0⟩:=trodAll_cons h
   simp only[List.all_cons,Bool.and_eq_true,decide_eq_true_eq]at ht
   refine trodAll_cons_mk (Below.trod hl ht.1.1 ht.1.2 h0 hb (fun x hx=>hlt x (by simp[hx]))) (ih ht.2 (fun x hx=>hlt x (by simp[hx])) r0)
theorem post_true(hl:laidOutB P=true){f:Func}{s:ChangeSpec}{tb:TypeId}{W W':World}{args:Array Value}{ds gs:List (DataW H)}{before:List MemPlace}
   (hts:f.params.toList.all (fun t=>P.readableRec t&&decide (t<P.types.size))=true) (hres:f.resultTypes = #[tb]) (hbool:P.underlying tb=some .bool)
   (hvars:s.vars=[]) (hfn:s.fn H (ds++gs)={ results:=[.lit (.bool true)],args:=ds })
   (hW:DataW.Whole enc P f.params.toList s.vars false W args.toList ds gs before) (bel:Below W.heap.size W W') :
   s.post enc P f false true false false W args (.bool true) W':=by
 have hW':=hW
 obtain⟨p,q,hA,hV,rfl,hfz,hnd⟩:=hW
 rw[hvars]at hV
 obtain⟨rfl,rfl⟩:=trodVars_none hV
 have hlt:∀ x∈p,x.block<W.heap.size:=fun x hx=>hW'.lt x (by simp[hx])
 refine⟨ds,[],_,[],p,[],hW', ?_, ?_, ?_,bel.frame _,fun h=>by cases h⟩
 · rw[hfn,hres];exact trodAll_mk1 (shut_bool hbool _)
 · rw[hfn];exact Yi hl bel hts hlt hA
 · rw[hfn,hvars];rfl
end
end Go.Proofs.YtjdmhijaanmccaaDoor.Row
