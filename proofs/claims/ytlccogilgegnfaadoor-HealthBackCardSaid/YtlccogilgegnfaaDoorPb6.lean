/- Packed: Ln, Lo, Lp, Lq, Bc, Bd, Hf, EngAe, Hj, Row. No conditions. -/
import Derived.Test.YtlccogilgegnfaaDoorPb5
import Derived.Test.YtlccogilgegnfaaDoorRows
import Derived.WalkKit
import Derived.ProofKit
import Derived.OpenShut
import Derived.ShutString
import Derived.ChangeOld
import Derived.Below
import Derived.Carry
import Derived.SizedLaws
set_option maxHeartbeats 4000000
namespace Go.Proofs.YtlccogilgegnfaaDoor.Ly
open Go Go.Proofs.YtlccogilgegnfaaDoor.Eng Go.Proofs.YtlccogilgegnfaaDoor.Mem
set_option linter.unusedSimpArgs false
set_option linter.unusedVariables false
set_option maxRecDepth 100000
structure BJ where
 At:Int
 Size:Int
 AC:CZ
 deriving Inhabited,DecidableEq
def BJ.cells(x:BJ):List Value:=[.int .i64 x.At]++[.int .i64 x.Size]++CZ.cells x.AC
abbrev BJ.arr(x:BJ):Array Value:= #[.int .i64 x.At,.int .i64 x.Size,.int .i64 x.AC.Kind,.int .i64 x.AC.Index,.int .i64 x.AC.Port]
structure BJ.ok(F:Nat→Prop)(W:World)(x:BJ):Prop where
 At:IG .i64 x.At
 Size:IG .i64 x.Size
 AC:CZ.ok F W x.AC
theorem BJ.ok.ext{F F':Nat→Prop}{W W':World}(he:Ext F W W')(hF:∀ b,F b→F' b){x:BJ}(h:BJ.ok F W x):BJ.ok F' W' x:=⟨h.At,h.Size,CZ.ok.ext he hF h.AC⟩
def pcPart(c:Ai)(i:Nat):List BJ:=[⟨CV c i,2,⟨3,(i:Int),0⟩⟩,⟨CV c i+2,17,⟨4,(i:Int),0⟩⟩,⟨CV c i+2+17,5,⟨5,(i:Int),0⟩⟩]
def Gu(c:Ai)(i:Nat):List BJ:=[⟨16*c.Kernel,2,⟨2,0,0⟩⟩]++(List.range i).flatMap (pcPart c)
def VR(c:Ai)(k:Nat)(e:Gs)(j:Nat):BJ:=⟨IE c k j,portOf (gd c.Aj.xs k),⟨8,e.partition,e.port⟩⟩
def IX(c:Ai)(k:Nat)(l:List Gs):List BJ:=(List.range l.length).map (fun j=>VR c k (gd l j) j)
def VO(c:Ai)(k:Nat):List BJ:=[⟨CX c k,2,⟨6,(k:Int),0⟩⟩,⟨CX c k+2,BL (gd c.Aj.xs k),⟨7,(k:Int),0⟩⟩]++IX c k (CB c (k:Int) false)
def I9(c:Ai)(k:Nat):List BJ:=(List.range k).flatMap (VO c)
def Jb(c:Ai)(p n:Nat):List BJ:=(List.range n).map (fun(u:Nat)=>(⟨16*(Ec c p+(u:Int)),16,⟨9,(p:Int),0⟩⟩:BJ))
def Ob(c:Ai)(p:Nat):List BJ:=(List.range p).flatMap (fun p=>Jb c p (1+Jz (gd c.Aa.xs p)))
def Dj(c:Ai):List BJ:=Gu c c.Aa.xs.length++I9 c c.Aj.xs.length++Ob c c.Aa.xs.length
theorem Ze{c:Ai}{i:Nat}:Gu c (i+1)=Gu c i++[⟨CV c i,2,⟨3,(i:Int),0⟩⟩]++[⟨CV c i+2,17,⟨4,(i:Int),0⟩⟩]++[⟨CV c i+2+17,5,⟨5,(i:Int),0⟩⟩]:=by
 unfold Gu;rw[List.range_succ,List.flatMap_append];simp[pcPart]
theorem Za1{c:Ai}:∀ (i:Nat),(Gu c i).length=1+3*i
 | 0=>rfl
 | i+1=>by rw[Ze];simp[Za1 i];omega
theorem Vf{c:Ai}{k:Nat}{l:List Gs}:(IX c k l).length=l.length:=by simp[IX]
theorem pcDests_push{c:Ai}{k:Nat}{l:List Gs}{e:Gs}:IX c k (l++[e])=IX c k l++[VR c k e l.length]:=by
 unfold IX
 rw[List.length_append,List.length_singleton,List.range_succ,List.map_append]
 congr 1
 ·refine List.map_congr_left fun j hj => ?_
  rw[WM (List.mem_range.1 hj)]
 simp only[List.map_cons,List.map_nil,gd_push]
theorem Zb{c:Ai}{k:Nat}:I9 c (k+1)=I9 c k++VO c k:=by unfold I9;rw[List.range_succ,List.flatMap_append];simp
theorem ZaQ{c:Ai}(hf:Fine c):∀ (k:Nat),k≤c.Aj.xs.length→(I9 c k).length≤6*k
 | 0,_=>by simp[I9]
 | k+1,h=>by
  have h1:=ZaQ hf k (by omega)
  have h2:=hf.Yk (show k<c.Aj.xs.length by omega)
  unfold KD at h2
  rw[Zb,VO,List.length_append,List.length_append,Vf]
  simp only[List.length_cons,List.length_nil];omega
theorem Vg{c:Ai}{p n:Nat}:Jb c p (n+1)=Jb c p n++[⟨16*(Ec c p+(n:Int)),16,⟨9,(p:Int),0⟩⟩]:=by unfold Jb;rw[List.range_succ,List.map_append];rfl
theorem Z4{c:Ai}{p n:Nat}:(Jb c p n).length=n:=by simp[Jb]
theorem YW{c:Ai}{p:Nat}:Ob c (p+1)=Ob c p++Jb c p (1+Jz (gd c.Aa.xs p)):=by unfold Ob;rw[List.range_succ,List.flatMap_append];simp
theorem ZaR{c:Ai}:∀ (p:Nat),(Ob c p).length≤17*p
 | 0=>by simp[Ob]
 | p+1=>by
  have h1:=ZaR (c:=c) p
  have h2:=UD (gd c.Aa.xs p)
  rw[YW,List.length_append,Z4];omega
theorem pieces_len{c:Ai}(hf:Fine c):(Dj c).length≤400:=by
 have h1:=Za1 (c:=c) c.Aa.xs.length
 have h2:=ZaQ hf c.Aj.xs.length (Nat.le_refl _)
 have h3:=ZaR (c:=c) c.Aa.xs.length
 have hpn:=hf.pn;have hcn:=hf.cn
 unfold Dj
 rw[List.length_append,List.length_append];omega
theorem dAt_bd2{c:Ai}{k j:Nat}(hj:j≤64):CX c k≤IE c k j∧IE c k j≤CX c k+9100:=by
 have h1:=NZ (gd c.Aj.xs k)
 have h2:=Uh (gd c.Aj.xs k)
 unfold IE
 have h4:=Int.mul_nonneg (show(0:Int)≤(j:Int)by omega) h2.1
 have h5:=Int.mul_le_mul (show(j:Int)≤64 by omega) h2.2 h2.1 (by omega)
 omega
theorem tabsN_touch{x:Aq}(hr:∀ i,i<x.Ah.xs.length→KF (gd x.Ah.xs i)=true):(List.range 16).countP (fun b=>Iz x b)=Jz x:=by
 unfold Jz
 congr 1
 funext b
 exact touch_tab hr b
theorem rmay_yes(w:World)(c:Ai)(hc:Ai.ok Any w c)(h:Ep c=true):Calls Tryd.prog 25 #[.agg (Ai.arr c)] w fun e w'=>e = .returned (.bool true)∧Ce (fun _=>False) w w':=by
 have:=Zv w c hc
 rwa [h]at this
theorem rmay_no(w:World)(c:Ai)(hc:Ai.ok Any w c)(h:Ep c=false):Calls Tryd.prog 25 #[.agg (Ai.arr c)] w fun e w'=>e = .returned (.bool false)∧Ce (fun _=>False) w w':=by
 have:=Zv w c hc
 rwa [h]at this
section
variable (n36:Nat)(c:Ai)(k:Nat)(y30:Be)(n10 i:Nat)(n21 z n6:Nat)(aR3:Option Addr)(p:Nat)(y55:Aq)(q cR3:Nat)(aR2:Option Addr)(cR2:Nat)(aR7:Option Addr)(u cR7:Nat)(aR5:Option Addr)(cR5:Nat)(aR1:Option Addr)(cR1:Nat)(ax72:Option Addr)(cp73:Nat)(ax16:Option Addr)(cp17:Nat)(ax38:Option Addr)(cp39 t:Nat)(w:World)
abbrev JZ:=bk n36 #[i6 ((CX c k)+2),i6 (BL y30),i6 7,Ac k,i6 0] 101
abbrev Zac:=bk n10 #[i6 ((CV c i)+2),i6 17,i6 4,Ac i,i6 0] 101
abbrev JF:=bk (n21+1) #[i6 (CX c k),i6 2,i6 6,Ac k,i6 0] 101
abbrev EY:=bk (z+1) #[i6 (16*c.Kernel),i6 2,i6 2,i6 0,i6 0] 101
abbrev XH:=bk n6 #[i6 (CV c i),i6 2,i6 3,Ac i,i6 0] 101
abbrev JB:=bk n21 (Be.arr y30) 123
abbrev EZ:=bk z (Ai.arr c) 26
abbrev Rj:=BV z 101 5 BJ.cells (.slice aR3 ((Gu c i++I9 c k++[(⟨CX c k,2,(⟨6,(k:Int),0⟩:CZ)⟩:BJ)]++[(⟨CX c k+2,BL y30,(⟨7,(k:Int),0⟩:CZ)⟩:BJ)]++IX c k (Dn c (k:Int) false p++CQ p y55 (k:Int) false q)).length) cR3) (Gu c i++I9 c k++[(⟨CX c k,2,(⟨6,(k:Int),0⟩:CZ)⟩:BJ)]++[(⟨CX c k+2,BL y30,(⟨7,(k:Int),0⟩:CZ)⟩:BJ)]++IX c k (Dn c (k:Int) false p++CQ p y55 (k:Int) false q))
abbrev Lu:=BV z 101 5 BJ.cells (.slice aR2 ((Gu c i++I9 c k++[(⟨CX c k,2,(⟨6,(k:Int),0⟩:CZ)⟩:BJ)]++[(⟨CX c k+2,BL y30,(⟨7,(k:Int),0⟩:CZ)⟩:BJ)]++IX c k (Dn c (k:Int) false p)).length) cR2) (Gu c i++I9 c k++[(⟨CX c k,2,(⟨6,(k:Int),0⟩:CZ)⟩:BJ)]++[(⟨CX c k+2,BL y30,(⟨7,(k:Int),0⟩:CZ)⟩:BJ)]++IX c k (Dn c (k:Int) false p))
abbrev VD:=BV z 101 5 BJ.cells (.slice aR7 ((Gu c i++I9 c k++Ob c p++Jb c p u).length) cR7) (Gu c i++I9 c k++Ob c p++Jb c p u)
abbrev O1:=BV z 101 5 BJ.cells (.slice aR5 ((Gu c i++I9 c k++Ob c p).length) cR5) (Gu c i++I9 c k++Ob c p)
abbrev Jo:=BV z 101 5 BJ.cells (.slice aR1 ((Gu c i++I9 c k).length) cR1) (Gu c i++I9 c k)
abbrev Yy:D7:=(3,.slice ax72 ((Gu c i++I9 c k++[(⟨CX c k,2,(⟨6,(k:Int),0⟩:CZ)⟩:BJ)]++[(⟨CX c k+2,BL y30,(⟨7,(k:Int),0⟩:CZ)⟩:BJ)]++IX c k (Dn c (k:Int) false p++CQ p y55 (k:Int) false q)++[(⟨IE c k (Dn c (k:Int) false p++CQ p y55 (k:Int) false q).length,portOf y30,(⟨8,(p:Int),(q:Int)⟩:CZ)⟩:BJ)]).length) cp73)
abbrev Y9:D7:=(125,.slice aR3 ((Gu c i++I9 c k++[(⟨CX c k,2,(⟨6,(k:Int),0⟩:CZ)⟩:BJ)]++[(⟨CX c k+2,BL y30,(⟨7,(k:Int),0⟩:CZ)⟩:BJ)]++IX c k (Dn c (k:Int) false p++CQ p y55 (k:Int) false q)).length) cR3)
abbrev Le:D7:=(3,.slice aR3 ((Gu c i++I9 c k++[(⟨CX c k,2,(⟨6,(k:Int),0⟩:CZ)⟩:BJ)]++[(⟨CX c k+2,BL y30,(⟨7,(k:Int),0⟩:CZ)⟩:BJ)]++IX c k (Dn c (k:Int) false p++CQ p y55 (k:Int) false q)).length) cR3)
abbrev Yt:D7:=(3,.slice ax16 ((((Gu c i++[(⟨CV c i,2,(⟨3,(i:Int),0⟩:CZ)⟩:BJ)])++[(⟨(CV c i)+2,17,(⟨4,(i:Int),0⟩:CZ)⟩:BJ)])++[(⟨((CV c i)+2)+17,5,(⟨5,(i:Int),0⟩:CZ)⟩:BJ)]).length) cp17)
abbrev Jl:D7:=(3,.slice aR2 ((Gu c i++I9 c k++[(⟨CX c k,2,(⟨6,(k:Int),0⟩:CZ)⟩:BJ)]++[(⟨CX c k+2,BL y30,(⟨7,(k:Int),0⟩:CZ)⟩:BJ)]++IX c k (Dn c (k:Int) false p)).length) cR2)
abbrev Zap:D7:=(3,.slice ax38 (((Gu c i++I9 c k++[(⟨CX c k,2,(⟨6,(k:Int),0⟩:CZ)⟩:BJ)])++[(⟨(CX c k)+2,BL y30,(⟨7,(k:Int),0⟩:CZ)⟩:BJ)]).length) cp39)
abbrev VC:=(12,i6 (((1+(List.range t).countP (fun b=>Iz (gd c.Aa.xs p) b))+1:Nat):Int))
abbrev PQ:=(166,i6 ((1+(List.range t).countP (fun b=>Iz (gd c.Aa.xs p) b):Nat):Int))
abbrev MN:=(12,i6 ((1+(List.range t).countP (fun b=>Iz (gd c.Aa.xs p) b):Nat):Int))
abbrev Ku:=(4,i6 (IE c k (Dn c (k:Int) false p++CQ p y55 (k:Int) false q).length))
abbrev Jj:=(4,i6 (IE c k (Dn c (k:Int) false p).length))
abbrev Jm:D7:=(3,.slice aR5 ((Gu c i++I9 c k++Ob c p).length) cR5)
abbrev He:=(149,Ac c.Aa.xs.length)
abbrev H9:=(27,Ac c.Aa.xs.length)
abbrev FW:=(93,Ac c.Aa.xs.length)
abbrev ED:=(60,Ac c.Aj.xs.length)
abbrev Jn:=(103,Ac y55.Ap.xs.length)
abbrev Ij:D7:=(3,.slice aR1 ((Gu c i++I9 c k).length) cR1)
abbrev QL:=(4,i6 (16*(Ec c p+(u:Int))))
abbrev Po:=(104,i6 ((q+1:Nat):Int))
abbrev Fg:=(7,pt n21)
abbrev OY:=[(Ak w),(EZ c z),(EY c z),(Rj c k y30 i z aR3 p y55 q cR3),(JB y30 n21),(JF c k n21),(JZ n36 c k y30)]
end
theorem rpieces_calls(w:World)(c:Ai)(hc:Ai.ok Any w c)(hok:Ep c=true):Calls Tryd.prog 27 #[.agg (Ai.arr c)] w fun e w'=>∃ a cp,e = .returned (.slice a (Dj c).length cp)∧PW BJ.cells 5 (New w.heap.size) w' ⟨a,cp,Dj c⟩∧Ce (fun _=>False) w w':=by
 obtain⟨z,hz⟩:∃ z,z=w.heap.size:=⟨_,rfl⟩
 refine Bf (args:=[.agg (Ai.arr c)]) 181 ⟨w,z,[(Ak w)]⟩ Tryd.func27 rfl (by kernel_rfl) (by kernel_rfl) (Ed hz) ?_
 have hfine:=Sz hok;have hkn:=hfine.kn;have hpn:=hfine.pn;have hcn:=hfine.cn;have h8:∀ i,i<c.Aa.xs.length→(gd c.Aa.xs i).Ap.xs.length≤8:=fun i hi=>O6 (hfine.parts i hi)
 refine Di [0] [(0,.agg (Ai.arr c))] ?_
 refine q_c 14 5 [] [[o0,o0],[o0],[o0,(a1 1),(ov (i6 (16*c.Kernel))),o0],[o0,o0,o0,o0,o0]] [Qb z,Wr ((16:Int)*c.Kernel) (16*c.Kernel)] [(1,pt z),(4,i6 (16*c.Kernel)),(17,.slice none 0 0),(21,.slice (some ⟨z+1,0,none⟩) 1 1)] ⟨w,z+2,[(Ak w),(EZ c z),(EY c z)]⟩ rfl ⟨rfl,BP,Ae⟩ ?_
 refine l_rowL z 101 5 BJ.cells ?_
 refine PH z 3 2 ([]) [(⟨16*c.Kernel,2,(⟨2,0,0⟩:CZ)⟩:BJ)] BJ.cells 101 5 40 (.slice none 0 0) (z+1) 1 1 #[i6 (16*c.Kernel),i6 2,i6 2,i6 0,i6 0] 101 (0,0) true (some 22) (by simp only[List.length_cons,List.length_nil,List.length_append];omega) (show z≤z+2 by omega) (fun ax1 cp2 n3 (hn4:z+2≤n3) => ?_)
 refine AZ 12 0 [] [[o0],[o0,(ov (i6 ((16*c.Kernel)+2))),o0],[o0,(a1 1),o0,o0]] [Wr ((16*c.Kernel:Int)+2) ((16*c.Kernel)+2),Qb z] [(1,pt z),(3,.slice ax1 (([]++[(⟨16*c.Kernel,2,(⟨2,0,0⟩:CZ)⟩:BJ)]).length) cp2),(4,i6 ((16*c.Kernel)+2)),(H9 c),(28,i6 0)] rfl ⟨BP,rfl,Ae⟩ ?_
 refine D8 (fun m a w'=>∃ (n6:Nat) (i:Nat) (aR0:Option Addr) (cR0:Nat),m=c.Aa.xs.length - i∧n3≤n6∧(i≤c.Aa.xs.length)∧St 181 [(1,pt z),(3,.slice aR0 ((Gu c i).length) cR0),(4,i6 (CV c i)),(H9 c),(28,Ac i)] [] ⟨w,n6,[(Ak w),(EZ c z),(EY c z),(BV z 101 5 BJ.cells (.slice aR0 ((Gu c i).length) cR0) (Gu c i))]⟩ a w') (c.Aa.xs.length - 0) ?_ ?_
 ·intro a w' hs;exact⟨n3,0,ax1,cp2,rfl,Nat.le_refl _,Nat.zero_le _,by(try dsimp only[EY,EZ,H9]at hs ⊢);rw[show CV c 0=(16*c.Kernel)+2 from by unfold CV;omega];exact hs⟩
 rintro m a w' ⟨n6,i,aR0,cR0,rfl,hn5,hki,hs⟩
 refine(?_:G Tryd.prog 181 [(1,pt z),(3,.slice aR0 ((Gu c i).length) cR0),(4,i6 (CV c i)),(H9 c),(28,Ac i)] [] ⟨w,n6,[(Ak w),(EZ c z),(EY c z),(BV z 101 5 BJ.cells (.slice aR0 ((Gu c i).length) cR0) (Gu c i))]⟩ _ _ _) a w' hs
 clear hs a w'
 have hpA:CV c i=c.Kernel*16+2+24*(i:Int):=rfl
 have hlp:=Za1 (c:=c) i
 refine CW ?_
 by_cases h7:(i:Int)<(c.Aa.xs.length:Int)
 ·refine q_c 15 6 [1] [[oT],[o0,o0],[o0,o0,o0,o0,o0,o0]] [BT ((i:Int)<(c.Aa.xs.length:Int))] [(1,pt z),(4,i6 (CV c i)),(H9 c),(28,Ac i),(5,Ac i),(31,.slice aR0 ((Gu c i).length) cR0),(36,.slice (some ⟨n6,0,none⟩) 1 1)] ⟨w,n6+1,[(Ak w),(EZ c z),(EY c z),(BV z 101 5 BJ.cells (.slice aR0 ((Gu c i).length) cR0) (Gu c i)),(XH c i n6)]⟩ rfl ⟨bt,Ae⟩ ?_
  refine PH z 3 4 (Gu c i) [(⟨CV c i,2,(⟨3,(i:Int),0⟩:CZ)⟩:BJ)] BJ.cells 101 5 40 (.slice aR0 ((Gu c i).length) cR0) n6 1 1 #[i6 (CV c i),i6 2,i6 3,Ac i,i6 0] 101 (0,0) true (some 37) (by simp only[List.length_cons,List.length_nil,List.length_append];omega) (show z≤n6+1 by omega) (fun ax8 cp9 n10 (hn11:n6+1≤n10) => ?_)
  refine EI 4 7 [] [[o0],[o0,o0,(ov (i6 ((CV c i)+2))),o0,o0,o0,o0]] [Wr ((CV c i:Int)+2) ((CV c i)+2)] [(1,pt z),(4,i6 (CV c i)),(H9 c),(28,Ac i),(5,Ac i),(38,.slice ax8 ((Gu c i++[(⟨CV c i,2,(⟨3,(i:Int),0⟩:CZ)⟩:BJ)]).length) cp9),(44,.slice (some ⟨n10,0,none⟩) 1 1)] ⟨w,n10+1,[(Ak w),(EZ c z),(EY c z),(BV z 101 5 BJ.cells (.slice ax8 ((Gu c i++[(⟨CV c i,2,(⟨3,(i:Int),0⟩:CZ)⟩:BJ)]).length) cp9) (Gu c i++[(⟨CV c i,2,(⟨3,(i:Int),0⟩:CZ)⟩:BJ)])),(XH c i n6),(Zac c n10 i)]⟩ rfl ⟨BP,Ae⟩ ?_
  refine PH z 3 5 (Gu c i++[(⟨CV c i,2,(⟨3,(i:Int),0⟩:CZ)⟩:BJ)]) [(⟨(CV c i)+2,17,(⟨4,(i:Int),0⟩:CZ)⟩:BJ)] BJ.cells 101 5 40 (.slice ax8 ((Gu c i++[(⟨CV c i,2,(⟨3,(i:Int),0⟩:CZ)⟩:BJ)]).length) cp9) n10 1 1 #[i6 ((CV c i)+2),i6 17,i6 4,Ac i,i6 0] 101 (0,0) true (some 45) (by simp only[List.length_cons,List.length_nil,List.length_append];omega) (show z≤n10+1 by omega) (fun ax12 cp13 n14 (hn15:n10+1≤n14) => ?_)
  refine EI 4 8 [] [[o0],[o0,o0,(ov (i6 ((CV c i)+2))),(ov (i6 (((CV c i)+2)+17))),o0,o0,o0,o0]] [Wr ((CV c i:Int)+2) ((CV c i)+2),Wr (((CV c i)+2:Int)+17) (((CV c i)+2)+17)] [(1,pt z),(4,i6 (CV c i)),(H9 c),(28,Ac i),(46,.slice ax12 (((Gu c i++[(⟨CV c i,2,(⟨3,(i:Int),0⟩:CZ)⟩:BJ)])++[(⟨(CV c i)+2,17,(⟨4,(i:Int),0⟩:CZ)⟩:BJ)]).length) cp13),(53,.slice (some ⟨n14,0,none⟩) 1 1)] ⟨w,n14+1,[(Ak w),(EZ c z),(EY c z),(BV z 101 5 BJ.cells (.slice ax12 (((Gu c i++[(⟨CV c i,2,(⟨3,(i:Int),0⟩:CZ)⟩:BJ)])++[(⟨(CV c i)+2,17,(⟨4,(i:Int),0⟩:CZ)⟩:BJ)]).length) cp13) ((Gu c i++[(⟨CV c i,2,(⟨3,(i:Int),0⟩:CZ)⟩:BJ)])++[(⟨(CV c i)+2,17,(⟨4,(i:Int),0⟩:CZ)⟩:BJ)])),(XH c i n6),(Zac c n10 i),(bk n14 #[i6 (((CV c i)+2)+17),i6 5,i6 5,Ac i,i6 0] 101)]⟩ rfl ⟨BP,BP,Ae⟩ ?_
  refine PH z 3 6 ((Gu c i++[(⟨CV c i,2,(⟨3,(i:Int),0⟩:CZ)⟩:BJ)])++[(⟨(CV c i)+2,17,(⟨4,(i:Int),0⟩:CZ)⟩:BJ)]) [(⟨((CV c i)+2)+17,5,(⟨5,(i:Int),0⟩:CZ)⟩:BJ)] BJ.cells 101 5 40 (.slice ax12 (((Gu c i++[(⟨CV c i,2,(⟨3,(i:Int),0⟩:CZ)⟩:BJ)])++[(⟨(CV c i)+2,17,(⟨4,(i:Int),0⟩:CZ)⟩:BJ)]).length) cp13) n14 1 1 #[i6 (((CV c i)+2)+17),i6 5,i6 5,Ac i,i6 0] 101 (0,0) true (some 54) (by simp only[List.length_cons,List.length_nil,List.length_append];omega) (show z≤n14+1 by omega) (fun ax16 cp17 n18 (hn19:n14+1≤n18) => ?_)
  refine AZ 8 0 [] [[o0],[o0,(ov (i6 ((CV c i)+24))),o0],[(ov (i6 ((i+1:Nat):Int))),o0]] [Wr ((CV c i:Int)+24) ((CV c i)+24),Wr ((i:Int)+1) (((i+1:Nat):Int))] [(1,pt z),(4,i6 ((CV c i)+24)),(H9 c),(28,i6 ((i+1:Nat):Int)),(Yt c i ax16 cp17)] rfl ⟨BP,BP,Ae⟩ ?_
  refine Cc [0,1,2,3] [(Ak w),(EZ c z),(EY c z),(BV z 101 5 BJ.cells (.slice ax16 ((((Gu c i++[(⟨CV c i,2,(⟨3,(i:Int),0⟩:CZ)⟩:BJ)])++[(⟨(CV c i)+2,17,(⟨4,(i:Int),0⟩:CZ)⟩:BJ)])++[(⟨((CV c i)+2)+17,5,(⟨5,(i:Int),0⟩:CZ)⟩:BJ)]).length) cp17) (((Gu c i++[(⟨CV c i,2,(⟨3,(i:Int),0⟩:CZ)⟩:BJ)])++[(⟨(CV c i)+2,17,(⟨4,(i:Int),0⟩:CZ)⟩:BJ)])++[(⟨((CV c i)+2)+17,5,(⟨5,(i:Int),0⟩:CZ)⟩:BJ)]))] rfl rfl ?_
  refine BI [1,3,4,27,28] [(1,pt z),(Yt c i ax16 cp17),(4,i6 ((CV c i)+24)),(H9 c),(28,i6 ((i+1:Nat):Int))] ?_
  refine BR (fun a w' hs=>⟨c.Aa.xs.length - (i+1),by omega,n18,(i+1),ax16,cp17,rfl,by omega,by omega,by(try dsimp only[Zac,EY,XH,EZ,Yt,H9]at hs ⊢);rw[show CV c (i+1)=(CV c i)+24 from by unfold CV;omega,Ze];exact hs⟩)
 refine Au 16 0 [0] [[oF],[o0,(a1 1),o0,o0]] [BF ((i:Int)<(c.Aa.xs.length:Int)),Qb z] [(1,pt z),(3,.slice aR0 ((Gu c i).length) cR0),(4,i6 (CV c i)),(ED c),(61,i6 0)] rfl ⟨bf,rfl,Ae⟩ ?_
 refine D8 (fun m a w'=>∃ (n21:Nat) (k:Nat) (aR1:Option Addr) (cR1:Nat),m=c.Aj.xs.length - k∧n6≤n21∧(k≤c.Aj.xs.length)∧St 181 [(1,pt z),(Ij c k i aR1 cR1),(4,i6 (CX c k)),(ED c),(61,Ac k)] [] ⟨w,n21,[(Ak w),(EZ c z),(EY c z),(Jo c k i z aR1 cR1)]⟩ a w') (c.Aj.xs.length - 0) ?_ ?_
 ·intro a w' hs;exact⟨n6,0,aR0,cR0,rfl,Nat.le_refl _,Nat.zero_le _,by(try dsimp only[Zac,EY,XH,EZ,Jo,Yt,H9,ED,Ij]at hs ⊢);rw[show I9 c 0=[]from rfl,List.append_nil,show CX c 0=CV c i from by rw[show i=c.Aa.xs.length by omega];rfl];exact hs⟩
 rintro m a w' ⟨n21,k,aR1,cR1,rfl,hn20,hkk,hs⟩
 refine(?_:G Tryd.prog 181 [(1,pt z),(Ij c k i aR1 cR1),(4,i6 (CX c k)),(ED c),(61,Ac k)] [] ⟨w,n21,[(Ak w),(EZ c z),(EY c z),(Jo c k i z aR1 cR1)]⟩ _ _ _) a w' hs
 clear hs a w'
 have hcb:=QW hfine k (by omega)
 have hp0:CV c c.Aa.xs.length=c.Kernel*16+2+24*(c.Aa.xs.length:Int):=rfl
 have hlc:=ZaQ hfine k (by omega)
 refine CW ?_
 by_cases h22:(k:Int)<(c.Aj.xs.length:Int)
 ·refine Au 14 0 [1] [[oT],[o0,o0]] [BT ((k:Int)<(c.Aj.xs.length:Int))] [(1,pt z),(Ij c k i aR1 cR1),(4,i6 (CX c k)),(ED c),(61,Ac k),(6,Ac k)] rfl ⟨bt,Ae⟩ ?_
  obtain⟨b23,o24,ha25,hF27,hc26⟩:=(hc.Aj).1.all (show 0<c.Aj.xs.length by omega)
  replace ha25:c.Aj.a=some ⟨b23,o24,none⟩:=ha25
  have hc28:=hc26 k (show k<c.Aj.xs.length by omega)
  have he29:=(hc.Aj).2 k (show k<c.Aj.xs.length by omega)
  obtain⟨y30,hy30⟩:∃ y_,y_=gd c.Aj.xs k:=⟨_,rfl⟩
  rw[←hy30]at he29 hc28
  have hsb:=NZ y30;have hpb:=Uh y30;have hlb:=Zax hfine (show k<c.Aj.xs.length by omega)
  refine q_c 5 6 [] [[o0,(EM 1 b23 o24 c.Aj),o0,(oi k),(ol 0 (Be.arr y30)),o0,(an 3 4)],[o0,o0,o0,o0,o0,o0]] [Qb z,Ej b23 o24 c.Aj,Dc k,k<c.Aj.xs.length,BM,GN w b23 (o24+k*3) (Be.arr y30),Qb n21,Qb n21,Qb n21] [(1,pt z),(4,i6 (CX c k)),(ED c),(61,Ac k),(6,Ac k),(Fg n21),(69,.slice aR1 ((Gu c i++I9 c k).length) cR1),(74,.slice (some ⟨n21+1,0,none⟩) 1 1)] ⟨w,n21+2,[(Ak w),(EZ c z),(EY c z),(Jo c k i z aR1 cR1),(JB y30 n21),(JF c k n21)]⟩ rfl ⟨rfl,Eg ha25,rfl,(by omega),rfl,Em hc28,rfl,rfl,rfl,Ae⟩ ?_
  refine PH z 3 5 (Gu c i++I9 c k) [(⟨CX c k,2,(⟨6,(k:Int),0⟩:CZ)⟩:BJ)] BJ.cells 101 5 40 (.slice aR1 ((Gu c i++I9 c k).length) cR1) (n21+1) 1 1 #[i6 (CX c k),i6 2,i6 6,Ac k,i6 0] 101 (0,0) true (some 75) (by simp only[List.length_cons,List.length_nil,List.length_append];omega) (show z≤n21+2 by omega) (fun ax31 cp32 n33 (hn34:n21+2≤n33) => ?_)
  refine AZ 4 4 [] [[o0],[o0,o0,(ov (i6 ((CX c k)+2))),(an 3 4)]] [Wr ((CX c k:Int)+2) ((CX c k)+2),Qb n21,Qb n21,Qb n21] [(1,pt z),(4,i6 (CX c k)),(ED c),(61,Ac k),(6,Ac k),(Fg n21),(76,.slice ax31 ((Gu c i++I9 c k++[(⟨CX c k,2,(⟨6,(k:Int),0⟩:CZ)⟩:BJ)]).length) cp32),(78,i6 ((CX c k)+2)),(79,.agg (Be.arr y30))] rfl ⟨BP,rfl,rfl,rfl,Ae⟩ ?_
  refine Ba 41 #[.agg (Be.arr y30)] (some 80) (i6 (BL y30)) (fun w35 hw35=>Xd w35 y30 (he29.ext (hw35.ext rfl) (fun _ h=>h))) (fun n36 (hn37:n33≤n36) => ?_)
  refine EI 0 4 [] [[o0,o0,o0,o0]] [] [(1,pt z),(4,i6 (CX c k)),(ED c),(61,Ac k),(6,Ac k),(Fg n21),(76,.slice ax31 ((Gu c i++I9 c k++[(⟨CX c k,2,(⟨6,(k:Int),0⟩:CZ)⟩:BJ)]).length) cp32),(84,.slice (some ⟨n36,0,none⟩) 1 1)] ⟨w,n36+1,[(Ak w),(EZ c z),(EY c z),(BV z 101 5 BJ.cells (.slice ax31 ((Gu c i++I9 c k++[(⟨CX c k,2,(⟨6,(k:Int),0⟩:CZ)⟩:BJ)]).length) cp32) (Gu c i++I9 c k++[(⟨CX c k,2,(⟨6,(k:Int),0⟩:CZ)⟩:BJ)])),(JB y30 n21),(JF c k n21),(JZ n36 c k y30)]⟩ rfl Ae ?_
  refine PH z 3 6 (Gu c i++I9 c k++[(⟨CX c k,2,(⟨6,(k:Int),0⟩:CZ)⟩:BJ)]) [(⟨(CX c k)+2,BL y30,(⟨7,(k:Int),0⟩:CZ)⟩:BJ)] BJ.cells 101 5 40 (.slice ax31 ((Gu c i++I9 c k++[(⟨CX c k,2,(⟨6,(k:Int),0⟩:CZ)⟩:BJ)]).length) cp32) n36 1 1 #[i6 ((CX c k)+2),i6 (BL y30),i6 7,Ac k,i6 0] 101 (0,0) true (some 85) (by simp only[List.length_cons,List.length_nil,List.length_append];omega) (show z≤n36+1 by omega) (fun ax38 cp39 n40 (hn41:n36+1≤n40) => ?_)
  refine AZ 4 2 [] [[o0],[o0,(an 3 4)]] [Qb n21,Qb n21,Qb n21] [(1,pt z),(ED c),(61,Ac k),(6,Ac k),(Fg n21),(Zap c k y30 i ax38 cp39),(86,i6 (CX c k)),(87,.agg (Be.arr y30))] rfl ⟨rfl,rfl,rfl,Ae⟩ ?_
  refine Ba 41 #[.agg (Be.arr y30)] (some 88) (i6 (BL y30)) (fun w42 hw42=>Xd w42 y30 (he29.ext (hw42.ext rfl) (fun _ h=>h))) (fun n43 (hn44:n40≤n43) => ?_)
  refine AZ 7 0 [] [[(ov (i6 (2+(BL y30)))),(ov (i6 ((CX c k)+(2+(BL y30))))),o0],[o0,(a1 1),o0,o0]] [Wr ((2:Int)+(BL y30)) (2+(BL y30)),Wr ((CX c k:Int)+(2+(BL y30))) ((CX c k)+(2+(BL y30))),Qb z] [(1,pt z),(Zap c k y30 i ax38 cp39),(4,i6 ((CX c k)+(2+(BL y30)))),(6,Ac k),(Fg n21),(ED c),(61,Ac k),(FW c),(94,i6 0)] rfl ⟨BP,BP,rfl,Ae⟩ ?_
  refine D8 (fun m a w'=>∃ (n46:Nat) (p:Nat) (aR2:Option Addr) (cR2:Nat),m=c.Aa.xs.length - p∧n43≤n46∧(p≤c.Aa.xs.length)∧St 181 [(1,pt z),(Jl c k y30 i p aR2 cR2),(Jj c k p),(6,Ac k),(Fg n21),(ED c),(61,Ac k),(FW c),(94,Ac p)] [] ⟨w,n46,[(Ak w),(EZ c z),(EY c z),(Lu c k y30 i z p aR2 cR2),(JB y30 n21),(JF c k n21),(JZ n36 c k y30)]⟩ a w') (c.Aa.xs.length - 0) ?_ ?_
  ·intro a w' hs;exact⟨n43,0,ax38,cp39,rfl,Nat.le_refl _,Nat.zero_le _,by(try dsimp only[JZ,JF,EY,JB,EZ,Lu,Jo,Jl,Zap,Jj,H9,FW,ED,Ij,Fg]at hs ⊢);rw[show Dn c (k:Int) false 0=[]from rfl,show IE c k (List.length [])=(CX c k)+(2+(BL y30))from by unfold IE;rw[←hy30,List.length_nil];omega,show IX c k []=[]from rfl,List.append_nil];exact hs⟩
  rintro m a w' ⟨n46,p,aR2,cR2,rfl,hn45,hkp,hs⟩
  refine(?_:G Tryd.prog 181 [(1,pt z),(Jl c k y30 i p aR2 cR2),(Jj c k p),(6,Ac k),(Fg n21),(ED c),(61,Ac k),(FW c),(94,Ac p)] [] ⟨w,n46,[(Ak w),(EZ c z),(EY c z),(Lu c k y30 i z p aR2 cR2),(JB y30 n21),(JF c k n21),(JZ n36 c k y30)]⟩ _ _ _) a w' hs
  clear hs a w'
  have hle:=TI (k:=(k:Int)) (b:=false) h8 p (by omega)
  have hdb:=dAt_bd2 (c:=c) (k:=k) (show(Dn c (k:Int) false p).length≤64 by omega)
  have hld:=Vf (c:=c) (k:=k) (l:=Dn c (k:Int) false p)
  refine CW ?_
  by_cases h47:(p:Int)<(c.Aa.xs.length:Int)
  ·refine Au 14 0 [1] [[oT],[o0,o0]] [BT ((p:Int)<(c.Aa.xs.length:Int))] [(1,pt z),(Jl c k y30 i p aR2 cR2),(Jj c k p),(6,Ac k),(Fg n21),(ED c),(61,Ac k),(FW c),(94,Ac p),(8,Ac p)] rfl ⟨bt,Ae⟩ ?_
   obtain⟨b48,o49,ha50,hF52,hc51⟩:=(hc.Aa).1.all (show 0<c.Aa.xs.length by omega)
   replace ha50:c.Aa.a=some ⟨b48,o49,none⟩:=ha50
   have hc53:=hc51 p (show p<c.Aa.xs.length by omega)
   have he54:=(hc.Aa).2 p (show p<c.Aa.xs.length by omega)
   obtain⟨y55,hy55⟩:∃ y_,y_=gd c.Aa.xs p:=⟨_,rfl⟩
   rw[←hy55]at he54 hc53
   have h8p:=h8 p (by omega);rw[←hy55]at h8p
   refine Au 4 0 [] [[o0,(EM 1 b48 o49 c.Aa),o0,(oi p),o0,(oa [.via 0 (.slice y55.Ap.a y55.Ap.xs.length y55.Ap.cap)]),o0,o0]] [Qb z,Ej b48 o49 c.Aa,Dc p,p<c.Aa.xs.length,BM,Old w b48 (o49+p*8+7) (.slice y55.Ap.a y55.Ap.xs.length y55.Ap.cap)] [(1,pt z),(Jl c k y30 i p aR2 cR2),(Jj c k p),(6,Ac k),(Fg n21),(8,Ac p),(ED c),(61,Ac k),(FW c),(94,Ac p),(Jn y55),(104,i6 0)] rfl ⟨rfl,Eg ha50,rfl,(by omega),rfl,Aw (hc53 7 _ rfl),Ae⟩ ?_
   refine D8 (fun m a w'=>∃ (n57:Nat) (q:Nat) (aR3:Option Addr) (cR3:Nat),m=y55.Ap.xs.length - q∧n46≤n57∧(q≤y55.Ap.xs.length)∧St 181 [(1,pt z),(Le c k y30 i aR3 p y55 q cR3),(Ku c k p y55 q),(6,Ac k),(Fg n21),(8,Ac p),(ED c),(61,Ac k),(FW c),(94,Ac p),(Jn y55),(104,Ac q)] [] ⟨w,n57,(OY n36 c k y30 i n21 z aR3 p y55 q cR3 w)⟩ a w') (y55.Ap.xs.length - 0) ?_ ?_
   ·intro a w' hs;exact⟨n46,0,aR2,cR2,rfl,Nat.le_refl _,Nat.zero_le _,by(try dsimp only[JZ,JF,EY,JB,EZ,Rj,Lu,Jo,Le,Jl,Ku,Jj,H9,FW,ED,Jn,Ij,Fg,OY]at hs ⊢);rw[show CQ p y55 (k:Int) false 0=[]from rfl,List.append_nil];exact hs⟩
   rintro m a w' ⟨n57,q,aR3,cR3,rfl,hn56,hkq,hs⟩
   refine(?_:G Tryd.prog 181 [(1,pt z),(Le c k y30 i aR3 p y55 q cR3),(Ku c k p y55 q),(6,Ac k),(Fg n21),(8,Ac p),(ED c),(61,Ac k),(FW c),(94,Ac p),(Jn y55),(104,Ac q)] [] ⟨w,n57,(OY n36 c k y30 i n21 z aR3 p y55 q cR3 w)⟩ _ _ _) a w' hs
   clear hs a w'
   have hlq:(CQ p y55 (k:Int) false q).length≤q:=RG
   have hl2:(Dn c (k:Int) false p++CQ p y55 (k:Int) false q).length=(Dn c (k:Int) false p).length+(CQ p y55 (k:Int) false q).length:=List.length_append
   have hdb2:=dAt_bd2 (c:=c) (k:=k) (show(Dn c (k:Int) false p++CQ p y55 (k:Int) false q).length≤64 by omega)
   have hld2:=Vf (c:=c) (k:=k) (l:=(Dn c (k:Int) false p++CQ p y55 (k:Int) false q))
   refine CW ?_
   by_cases h58:(q:Int)<(y55.Ap.xs.length:Int)
   ·refine Au 14 0 [1] [[oT],[o0,o0]] [BT ((q:Int)<(y55.Ap.xs.length:Int))] [(1,pt z),(Le c k y30 i aR3 p y55 q cR3),(Ku c k p y55 q),(6,Ac k),(Fg n21),(8,Ac p),(ED c),(61,Ac k),(FW c),(94,Ac p),(Jn y55),(104,Ac q),(9,Ac q)] rfl ⟨bt,Ae⟩ ?_
    obtain⟨b59,o60,ha61,hF63,hc62⟩:=(he54.Ap).1.all (show 0<y55.Ap.xs.length by omega)
    replace ha61:y55.Ap.a=some ⟨b59,o60,none⟩:=ha61
    have hc64:=hc62 q (show q<y55.Ap.xs.length by omega)
    have he65:=(he54.Ap).2 q (show q<y55.Ap.xs.length by omega)
    obtain⟨y66,hy66⟩:∃ y_,y_=gd y55.Ap.xs q:=⟨_,rfl⟩
    rw[←hy66]at he65 hc64
    refine q_c 4 0 [] [[o0,(EM 1 b48 o49 c.Aa),o0,(oi p),o0,⟨.auto [.via 0 (.slice y55.Ap.a y55.Ap.xs.length y55.Ap.cap)],some (.slice (some ⟨b59,o60,none⟩) y55.Ap.xs.length y55.Ap.cap)⟩,o0,(oi q),(ol 0 (EE.arr y66)),o0,(an 2 7)]] [Qb z,Ej b48 o49 c.Aa,Dc p,p<c.Aa.xs.length,BM,Old w b48 (o49+p*8+7) (.slice y55.Ap.a y55.Ap.xs.length y55.Ap.cap),Ej b59 o60 y55.Ap,Dc q,q<y55.Ap.xs.length,BM,GN w b59 (o60+q*2) (EE.arr y66),Qb n57,Qb n57] [(1,pt z),(Le c k y30 i aR3 p y55 q cR3),(Ku c k p y55 q),(6,Ac k),(Fg n21),(8,Ac p),(ED c),(61,Ac k),(FW c),(94,Ac p),(Jn y55),(104,Ac q),(9,Ac q),(10,pt n57)] ⟨w,n57+1,[(Ak w),(EZ c z),(EY c z),(Rj c k y30 i z aR3 p y55 q cR3),(JB y30 n21),(JF c k n21),(JZ n36 c k y30),(bk n57 (EE.arr y66) 127)]⟩ rfl ⟨rfl,Eg ha50,rfl,(by omega),rfl,Aw (hc53 7 _ rfl),Eg ha61,rfl,(by omega),rfl,Em hc64,rfl,rfl,Ae⟩ ?_
    by_cases h67:(y66.Channel:Int)=(k:Int)
    ·by_cases h68:y66.Source=true
     ·refine Au 9 0 [0] [[o0,(a1 7),o0,oT,o0,o0,(a1 7),(ov (.bool false)),o0],[(ov (i6 ((q+1:Nat):Int))),o0]] [Qb n57,ET y66.Channel (k:Int),Qb n57,Value.bool (!y66.Source)=Value.bool false,Wr ((q:Int)+1) (((q+1:Nat):Int))] [(1,pt z),(Le c k y30 i aR3 p y55 q cR3),(Ku c k p y55 q),(6,Ac k),(Fg n21),(8,Ac p),(ED c),(61,Ac k),(FW c),(94,Ac p),(Jn y55),(Po q)] rfl ⟨rfl,et,rfl,by simp[h68],BP,Ae⟩ ?_
      refine Cc [0,1,2,3,4,5,6] (OY n36 c k y30 i n21 z aR3 p y55 q cR3 w) rfl rfl ?_
      have hT:=Ls (p:=p) (x:=y55) (k:=(k:Int)) (b:=false) (j:=q) (by rw[←hy66];exact VQ (by revert h68;cases y66.Source <;> simp))
      refine BI [1,3,4,6,7,8,60,61,93,94,103,104] [(1,pt z),(Le c k y30 i aR3 p y55 q cR3),(Ku c k p y55 q),(6,Ac k),(Fg n21),(8,Ac p),(ED c),(61,Ac k),(FW c),(94,Ac p),(Jn y55),(Po q)] ?_
      refine BR (fun a w' hs=>⟨y55.Ap.xs.length - (q+1),by omega,(n57+1),(q+1),aR3,cR3,rfl,by omega,by omega,by(try dsimp only[JZ,JF,EY,JB,EZ,Rj,Lu,Jo,Le,Jl,Ku,Jj,H9,FW,ED,Jn,Ij,Po,Fg,OY]at hs ⊢);rw[hT];exact hs⟩)
     refine Au 6 3 [1] [[o0,(a1 7),o0,oT,o0,o0,(a1 7),(ov (.bool true)),o0],[o0,o0,(an 3 4)]] [Qb n57,ET y66.Channel (k:Int),Qb n57,Value.bool (!y66.Source)=Value.bool true,Qb n21,Qb n21,Qb n21] [(1,pt z),(Ku c k p y55 q),(6,Ac k),(Fg n21),(8,Ac p),(ED c),(61,Ac k),(FW c),(94,Ac p),(Jn y55),(104,Ac q),(9,Ac q),(Y9 c k y30 i aR3 p y55 q cR3),(126,i6 (IE c k (Dn c (k:Int) false p++CQ p y55 (k:Int) false q).length)),(127,.agg (Be.arr y30))] rfl ⟨rfl,et,rfl,by simp[h68],rfl,rfl,rfl,Ae⟩ ?_
     refine Ba 39 #[.agg (Be.arr y30)] (some 128) (i6 (portOf y30)) (fun w69 hw69=>Vk w69 y30 (he29.ext (hw69.ext rfl) (fun _ h=>h))) (fun n70 (hn71:n57+1≤n70) => ?_)
     refine EI 0 5 [] [[o0,o0,o0,o0,o0]] [] [(1,pt z),(Ku c k p y55 q),(6,Ac k),(Fg n21),(8,Ac p),(ED c),(61,Ac k),(FW c),(94,Ac p),(Jn y55),(104,Ac q),(Y9 c k y30 i aR3 p y55 q cR3),(133,.slice (some ⟨n70,0,none⟩) 1 1)] ⟨w,n70+1,[(Ak w),(EZ c z),(EY c z),(Rj c k y30 i z aR3 p y55 q cR3),(JB y30 n21),(JF c k n21),(JZ n36 c k y30),(bk n57 (EE.arr y66) 127),(bk n70 #[i6 (IE c k (Dn c (k:Int) false p++CQ p y55 (k:Int) false q).length),i6 (portOf y30),i6 8,Ac p,Ac q] 101)]⟩ rfl Ae ?_
     refine PH z 3 8 (Gu c i++I9 c k++[(⟨CX c k,2,(⟨6,(k:Int),0⟩:CZ)⟩:BJ)]++[(⟨CX c k+2,BL y30,(⟨7,(k:Int),0⟩:CZ)⟩:BJ)]++IX c k (Dn c (k:Int) false p++CQ p y55 (k:Int) false q)) [(⟨IE c k (Dn c (k:Int) false p++CQ p y55 (k:Int) false q).length,portOf y30,(⟨8,(p:Int),(q:Int)⟩:CZ)⟩:BJ)] BJ.cells 101 5 40 (.slice aR3 ((Gu c i++I9 c k++[(⟨CX c k,2,(⟨6,(k:Int),0⟩:CZ)⟩:BJ)]++[(⟨CX c k+2,BL y30,(⟨7,(k:Int),0⟩:CZ)⟩:BJ)]++IX c k (Dn c (k:Int) false p++CQ p y55 (k:Int) false q)).length) cR3) n70 1 1 #[i6 (IE c k (Dn c (k:Int) false p++CQ p y55 (k:Int) false q).length),i6 (portOf y30),i6 8,Ac p,Ac q] 101 (0,0) true (some 134) (by simp only[List.length_cons,List.length_nil,List.length_append];omega) (show z≤n70+1 by omega) (fun ax72 cp73 n74 (hn75:n70+1≤n74) => ?_)
     refine AZ 3 2 [] [[o0],[o0,(an 3 4)]] [Qb n21,Qb n21,Qb n21] [(1,pt z),(6,Ac k),(Fg n21),(8,Ac p),(ED c),(61,Ac k),(FW c),(94,Ac p),(Jn y55),(104,Ac q),(Yy c k y30 i p y55 q ax72 cp73),(135,i6 (IE c k (Dn c (k:Int) false p++CQ p y55 (k:Int) false q).length)),(136,.agg (Be.arr y30))] rfl ⟨rfl,rfl,rfl,Ae⟩ ?_
     refine Ba 39 #[.agg (Be.arr y30)] (some 137) (i6 (portOf y30)) (fun w76 hw76=>Vk w76 y30 (he29.ext (hw76.ext rfl) (fun _ h=>h))) (fun n77 (hn78:n74≤n77) => ?_)
     refine AZ 5 0 [] [[(ov (i6 ((IE c k (Dn c (k:Int) false p++CQ p y55 (k:Int) false q).length)+(portOf y30)))),o0],[(ov (i6 ((q+1:Nat):Int))),o0]] [Wr ((IE c k (Dn c (k:Int) false p++CQ p y55 (k:Int) false q).length:Int)+(portOf y30)) ((IE c k (Dn c (k:Int) false p++CQ p y55 (k:Int) false q).length)+(portOf y30)),Wr ((q:Int)+1) (((q+1:Nat):Int))] [(1,pt z),(6,Ac k),(Fg n21),(8,Ac p),(ED c),(61,Ac k),(FW c),(94,Ac p),(Jn y55),(Po q),(Yy c k y30 i p y55 q ax72 cp73),(4,i6 ((IE c k (Dn c (k:Int) false p++CQ p y55 (k:Int) false q).length)+(portOf y30)))] rfl ⟨BP,BP,Ae⟩ ?_
     refine Cc [0,1,2,3,4,5,6] [(Ak w),(EZ c z),(EY c z),(BV z 101 5 BJ.cells (.slice ax72 ((Gu c i++I9 c k++[(⟨CX c k,2,(⟨6,(k:Int),0⟩:CZ)⟩:BJ)]++[(⟨CX c k+2,BL y30,(⟨7,(k:Int),0⟩:CZ)⟩:BJ)]++IX c k (Dn c (k:Int) false p++CQ p y55 (k:Int) false q)++[(⟨IE c k (Dn c (k:Int) false p++CQ p y55 (k:Int) false q).length,portOf y30,(⟨8,(p:Int),(q:Int)⟩:CZ)⟩:BJ)]).length) cp73) (Gu c i++I9 c k++[(⟨CX c k,2,(⟨6,(k:Int),0⟩:CZ)⟩:BJ)]++[(⟨CX c k+2,BL y30,(⟨7,(k:Int),0⟩:CZ)⟩:BJ)]++IX c k (Dn c (k:Int) false p++CQ p y55 (k:Int) false q)++[(⟨IE c k (Dn c (k:Int) false p++CQ p y55 (k:Int) false q).length,portOf y30,(⟨8,(p:Int),(q:Int)⟩:CZ)⟩:BJ)])),(JB y30 n21),(JF c k n21),(JZ n36 c k y30)] rfl rfl ?_
     have hT:=P8 (p:=p) (x:=y55) (k:=(k:Int)) (b:=false) (j:=q) (by rw[←hy66];exact YE (by omega) (by revert h68;cases y66.Source <;> simp))
     refine BI [1,3,4,6,7,8,60,61,93,94,103,104] [(1,pt z),(Yy c k y30 i p y55 q ax72 cp73),(4,i6 ((IE c k (Dn c (k:Int) false p++CQ p y55 (k:Int) false q).length)+(portOf y30))),(6,Ac k),(Fg n21),(8,Ac p),(ED c),(61,Ac k),(FW c),(94,Ac p),(Jn y55),(Po q)] ?_
     refine BR (fun a w' hs=>⟨y55.Ap.xs.length - (q+1),by omega,n77,(q+1),ax72,cp73,rfl,by omega,by omega,by(try dsimp only[JZ,JF,EY,JB,EZ,Rj,Lu,Jo,Yy,Y9,Le,Jl,Ku,Jj,H9,FW,ED,Jn,Ij,Po,Fg,OY]at hs ⊢);rw[hT,←List.append_assoc,pcDests_push,←List.append_assoc,VR,←hy30,show IE c k ((Dn c (k:Int) false p++CQ p y55 (k:Int) false q)++[(⟨(p:Int),(q:Int)⟩:Gs)]).length=IE c k (Dn c (k:Int) false p++CQ p y55 (k:Int) false q).length+portOf y30 from by rw[List.length_append,List.length_singleton,dAt_succ,←hy30]];exact hs⟩)
    refine Au 9 0 [0] [[o0,(a1 7),o0,oF,o0,o0],[(ov (i6 ((q+1:Nat):Int))),o0]] [Qb n57,EF y66.Channel (k:Int),Wr ((q:Int)+1) (((q+1:Nat):Int))] [(1,pt z),(Le c k y30 i aR3 p y55 q cR3),(Ku c k p y55 q),(6,Ac k),(Fg n21),(8,Ac p),(ED c),(61,Ac k),(FW c),(94,Ac p),(Jn y55),(Po q)] rfl ⟨rfl,ef,BP,Ae⟩ ?_
    refine Cc [0,1,2,3,4,5,6] (OY n36 c k y30 i n21 z aR3 p y55 q cR3 w) rfl rfl ?_
    have hT:=Ls (p:=p) (x:=y55) (k:=(k:Int)) (b:=false) (j:=q) (by rw[←hy66];exact Xq (by omega))
    refine BI [1,3,4,6,7,8,60,61,93,94,103,104] [(1,pt z),(Le c k y30 i aR3 p y55 q cR3),(Ku c k p y55 q),(6,Ac k),(Fg n21),(8,Ac p),(ED c),(61,Ac k),(FW c),(94,Ac p),(Jn y55),(Po q)] ?_
    refine BR (fun a w' hs=>⟨y55.Ap.xs.length - (q+1),by omega,(n57+1),(q+1),aR3,cR3,rfl,by omega,by omega,by(try dsimp only[JZ,JF,EY,JB,EZ,Rj,Lu,Jo,Y9,Le,Jl,Ku,Jj,H9,FW,ED,Jn,Ij,Po,Fg,OY]at hs ⊢);rw[hT];exact hs⟩)
   refine Au 13 0 [0] [[oF],[(ov (i6 ((p+1:Nat):Int))),o0]] [BF ((q:Int)<(y55.Ap.xs.length:Int)),Wr ((p:Int)+1) (((p+1:Nat):Int))] [(1,pt z),(Le c k y30 i aR3 p y55 q cR3),(Ku c k p y55 q),(6,Ac k),(Fg n21),(ED c),(61,Ac k),(FW c),(94,i6 ((p+1:Nat):Int))] rfl ⟨bf,BP,Ae⟩ ?_
   refine BR (fun a w' hs=>⟨c.Aa.xs.length - (p+1),by omega,n57,(p+1),aR3,cR3,rfl,by omega,by omega,by(try dsimp only[JZ,JF,EY,JB,EZ,Rj,Lu,Jo,Le,Jl,Ku,Jj,H9,FW,ED,Jn,Ij,Po,Fg,OY]at hs ⊢);rw[MK,←hy55,show y55.Ap.xs.length=q by omega];exact hs⟩)
  refine Au 13 0 [0] [[oF],[(ov (i6 ((k+1:Nat):Int))),o0]] [BF ((p:Int)<(c.Aa.xs.length:Int)),Wr ((k:Int)+1) (((k+1:Nat):Int))] [(1,pt z),(Jl c k y30 i p aR2 cR2),(Jj c k p),(ED c),(61,i6 ((k+1:Nat):Int))] rfl ⟨bf,BP,Ae⟩ ?_
  refine Cc [0,1,2,3] [(Ak w),(EZ c z),(EY c z),(Lu c k y30 i z p aR2 cR2)] rfl rfl ?_
  refine BI [1,3,4,60,61] [(1,pt z),(Jl c k y30 i p aR2 cR2),(Jj c k p),(ED c),(61,i6 ((k+1:Nat):Int))] ?_
  refine BR (fun a w' hs=>⟨c.Aj.xs.length - (k+1),by omega,n46,(k+1),aR2,cR2,rfl,by omega,by omega,by(try dsimp only[JZ,JF,EY,JB,EZ,Rj,Lu,Jo,Le,Jl,Ku,Jj,H9,FW,ED,Jn,Ij,Fg,OY]at hs ⊢);rw[Zb,VO,cAt_succ,←hy30,show KD c k=(Dn c (k:Int) false p).length from by rw[show p=c.Aa.xs.length by omega];rfl,show CB c (k:Int) false=Dn c (k:Int) false p from by rw[show p=c.Aa.xs.length by omega];rfl,←List.append_assoc,←List.append_assoc];simp only[List.append_assoc,List.cons_append,List.nil_append]at hs ⊢;exact hs⟩)
 refine Au 12 0 [0] [[oF]] [BF ((k:Int)<(c.Aj.xs.length:Int))] [(1,pt z),(Ij c k i aR1 cR1),(4,i6 (CX c k)),(ED c),(61,Ac k),(62,.bool false)] rfl ⟨bf,Ae⟩ ?_
 have hkc:k=c.Aj.xs.length:=by omega
 have hfr:NQ c=(CX c k+16 - 1) / 16:=by rw[hkc];rfl
 refine Di [1,3,4] [(1,pt z),(Ij c k i aR1 cR1),(4,i6 (CX c k))] ?_
 refine D8 (fun m a w'=>∃ (n80:Nat) (at8:Int),m=(16*NQ c - at8).toNat∧n21≤n80∧(CX c k≤at8∧at8≤16*NQ c)∧St 181 [(1,pt z),(Ij c k i aR1 cR1),(4,i6 at8)] [] ⟨w,n80,[(Ak w),(EZ c z),(EY c z),(Jo c k i z aR1 cR1)]⟩ a w') ((16*NQ c - CX c k).toNat) ?_ ?_
 ·intro a w' hs;exact⟨n21,(CX c k),rfl,Nat.le_refl _,by omega,hs⟩
 rintro m a w' ⟨n80,at8,rfl,hn79,hat,hs⟩
 refine(?_:G Tryd.prog 181 [(1,pt z),(Ij c k i aR1 cR1),(4,i6 at8)] [] ⟨w,n80,[(Ak w),(EZ c z),(EY c z),(Jo c k i z aR1 cR1)]⟩ _ _ _) a w' hs
 clear hs a w'
 refine CW <| CW ?_
 by_cases h81:(at8 % 16:Int)=0
 ·refine Au 15 0 [0] [[o0,(ov (i6 (at8 % 16))),oF],[o0,(a1 1),o0,o0]] [i6 (Int.tmod (at8) 16)=i6 (at8 % 16),NF (at8 % 16) 0,Qb z] [(1,pt z),(Ij c k i aR1 cR1),(4,i6 at8),(He c),(150,i6 0)] rfl ⟨congrArg (Value.int .i64) (Zah (by omega) (by omega)),nf,rfl,Ae⟩ ?_
  refine D8 (fun m a w'=>∃ (n83:Nat) (p:Nat) (aR5:Option Addr) (cR5:Nat),m=c.Aa.xs.length - p∧n80≤n83∧(p≤c.Aa.xs.length)∧St 181 [(1,pt z),(Jm c k i p aR5 cR5),(4,i6 (16*Ec c p)),(He c),(150,Ac p)] [] ⟨w,n83,[(Ak w),(EZ c z),(EY c z),(O1 c k i z p aR5 cR5)]⟩ a w') (c.Aa.xs.length - 0) ?_ ?_
  ·intro a w' hs;exact⟨n80,0,aR1,cR1,rfl,Nat.le_refl _,Nat.zero_le _,by(try dsimp only[JZ,JF,EY,JB,EZ,Lu,O1,Jo,Jl,Jj,Jm,He,H9,FW,ED,Ij,Fg]at hs ⊢);rw[show Ob c 0=[]from rfl,List.append_nil,show 16*Ec c 0=at8 from by rw[show Ec c 0=NQ c from rfl];omega];exact hs⟩
  rintro m a w' ⟨n83,p,aR5,cR5,rfl,hn82,hkp,hs⟩
  refine(?_:G Tryd.prog 181 [(1,pt z),(Jm c k i p aR5 cR5),(4,i6 (16*Ec c p)),(He c),(150,Ac p)] [] ⟨w,n83,[(Ak w),(EZ c z),(EY c z),(O1 c k i z p aR5 cR5)]⟩ _ _ _) a w' hs
  clear hs a w'
  have htb:=RF hfine p (by omega)
  have hlt:=ZaR (c:=c) p
  refine CW ?_
  by_cases h84:(p:Int)<(c.Aa.xs.length:Int)
  ·refine Au 23 0 [1] [[oT],[o0,o0],[o0],[o0]] [BT ((p:Int)<(c.Aa.xs.length:Int))] [(1,pt z),(Jm c k i p aR5 cR5),(4,i6 (16*Ec c p)),(11,Ac p),(12,i6 1),(He c),(150,Ac p),(153,i6 0)] rfl ⟨bt,Ae⟩ ?_
   refine D8 (fun m a w'=>∃ (n86:Nat) (t:Nat),m=16 - t∧n83≤n86∧(t≤16)∧St 181 [(1,pt z),(Jm c k i p aR5 cR5),(4,i6 (16*Ec c p)),(11,Ac p),(MN c p t),(He c),(150,Ac p),(153,Ac t)] [] ⟨w,n86,[(Ak w),(EZ c z),(EY c z),(O1 c k i z p aR5 cR5)]⟩ a w') (16 - 0) ?_ ?_
   ·intro a w' hs;exact⟨n83,0,rfl,Nat.le_refl _,Nat.zero_le _,hs⟩
   rintro m a w' ⟨n86,t,rfl,hn85,hkt,hs⟩
   refine(?_:G Tryd.prog 181 [(1,pt z),(Jm c k i p aR5 cR5),(4,i6 (16*Ec c p)),(11,Ac p),(MN c p t),(He c),(150,Ac p),(153,Ac t)] [] ⟨w,n86,[(Ak w),(EZ c z),(EY c z),(O1 c k i z p aR5 cR5)]⟩ _ _ _) a w' hs
   clear hs a w'
   have hcl:(List.range t).countP (fun b=>Iz (gd c.Aa.xs p) b)≤t:=Nat.le_trans List.countP_le_length (by simp)
   refine CW ?_
   by_cases h87:(t:Int)<16
   ·refine Au 14 0 [1] [[oT],[o0,o0]] [BT ((t:Int)<16)] [(1,pt z),(Jm c k i p aR5 cR5),(4,i6 (16*Ec c p)),(11,Ac p),(MN c p t),(He c),(150,Ac p),(153,Ac t),(13,Ac t)] rfl ⟨bt,Ae⟩ ?_
    obtain⟨b88,o89,ha90,hF92,hc91⟩:=(hc.Aa).1.all (show 0<c.Aa.xs.length by omega)
    replace ha90:c.Aa.a=some ⟨b88,o89,none⟩:=ha90
    have hc93:=hc91 p (show p<c.Aa.xs.length by omega)
    have he94:=(hc.Aa).2 p (show p<c.Aa.xs.length by omega)
    obtain⟨y95,hy95⟩:∃ y_,y_=gd c.Aa.xs p:=⟨_,rfl⟩
    rw[←hy95]at he94 hc93
    have h8p:=h8 p (by omega);rw[←hy95]at h8p
    refine Au 1 6 [] [[o0,(EM 1 b88 o89 c.Aa),o0,(oi p),(ol 0 (Aq.arr y95)),o0]] [Qb z,Ej b88 o89 c.Aa,Dc p,p<c.Aa.xs.length,BM,GN w b88 (o89+p*8) (Aq.arr y95)] [(1,pt z),(Jm c k i p aR5 cR5),(4,i6 (16*Ec c p)),(11,Ac p),(MN c p t),(He c),(150,Ac p),(153,Ac t),(160,.agg (Aq.arr y95)),(161,Ac t)] rfl ⟨rfl,Eg ha90,rfl,(by omega),rfl,Em hc93,Ae⟩ ?_
    refine Ba 42 #[.agg (Aq.arr y95),Ac t] (some 162) (.bool (Iz y95 t)) (fun w96 hw96=>touches_calls w96 y95 t (by omega) (he94.ext (hw96.ext rfl) (fun _ h=>h)) (Zar (by rw[hy95];exact hfine.parts p (by omega)))) (fun n97 (hn98:n86≤n97) => ?_)
    refine Dh [1,3,4,11,12,149,150,153,162] [(1,pt z),(Jm c k i p aR5 cR5),(4,i6 (16*Ec c p)),(11,Ac p),(MN c p t),(He c),(150,Ac p),(153,Ac t),(162,.bool (Iz y95 t))] ?_
    refine Ve (by kernel_rfl) ?_
    refine Gy ?_
    by_cases h99:(Iz y95 t)=true
    ·refine Au 7 0 [3] [[o0,(ov (i6 (((1+(List.range t).countP (fun b=>Iz (gd c.Aa.xs p) b))+1:Nat):Int))),o0],[(ov (i6 ((t+1:Nat):Int))),o0]] [Value.bool (Iz y95 t)=Value.bool true,Wr ((((1+(List.range t).countP (fun b=>Iz (gd c.Aa.xs p) b):Nat):Int):Int)+1) ((((1+(List.range t).countP (fun b=>Iz (gd c.Aa.xs p) b))+1:Nat):Int)),Wr ((t:Int)+1) (((t+1:Nat):Int))] [(1,pt z),(Jm c k i p aR5 cR5),(4,i6 (16*Ec c p)),(11,Ac p),(VC c p t),(He c),(150,Ac p),(153,i6 ((t+1:Nat):Int))] rfl ⟨(congrArg Value.bool h99),BP,BP,Ae⟩ ?_
     have hT:=Va (p:=fun b=>Iz (gd c.Aa.xs p) b) (j:=t)
     rw[←hy95]at hT
     simp only[h99,if_true,if_false,Nat.add_zero]at hT
     refine BI [1,3,4,11,12,149,150,153] [(1,pt z),(Jm c k i p aR5 cR5),(4,i6 (16*Ec c p)),(11,Ac p),(VC c p t),(He c),(150,Ac p),(153,i6 ((t+1:Nat):Int))] ?_
     refine BR (fun a w' hs=>⟨16 - (t+1),by omega,n97,(t+1),rfl,by omega,by omega,by(try dsimp only[JZ,JF,EY,JB,EZ,Lu,O1,Jo,Jl,VC,MN,Jj,Jm,He,H9,FW,ED,Ij,Fg]at hs ⊢);rw[←hy95]at hs ⊢;rw[hT];exact hs⟩)
    refine Au 6 0 [2] [[(ov (i6 ((t+1:Nat):Int))),o0]] [Value.bool (Iz y95 t)=Value.bool false,Wr ((t:Int)+1) (((t+1:Nat):Int))] [(1,pt z),(Jm c k i p aR5 cR5),(4,i6 (16*Ec c p)),(11,Ac p),(MN c p t),(He c),(150,Ac p),(153,i6 ((t+1:Nat):Int))] rfl ⟨(congrArg Value.bool (Bool.eq_false_iff.2 h99)),BP,Ae⟩ ?_
    have hT:=Va (p:=fun b=>Iz (gd c.Aa.xs p) b) (j:=t)
    rw[←hy95]at hT
    simp only[(Bool.eq_false_iff.2 h99),Bool.false_eq_true,if_true,if_false,Nat.add_zero]at hT
    refine BI [1,3,4,11,12,149,150,153] [(1,pt z),(Jm c k i p aR5 cR5),(4,i6 (16*Ec c p)),(11,Ac p),(MN c p t),(He c),(150,Ac p),(153,i6 ((t+1:Nat):Int))] ?_
    refine BR (fun a w' hs=>⟨16 - (t+1),by omega,n97,(t+1),rfl,by omega,by omega,by(try dsimp only[JZ,JF,EY,JB,EZ,Lu,O1,Jo,Jl,VC,MN,Jj,Jm,He,H9,FW,ED,Ij,Fg]at hs ⊢);rw[←hy95]at hs ⊢;rw[hT];exact hs⟩)
   refine Au 15 0 [0] [[oF],[o0,o0]] [BF ((t:Int)<16)] [(1,pt z),(Jm c k i p aR5 cR5),(4,i6 (16*Ec c p)),(11,Ac p),(He c),(150,Ac p),(PQ c p t),(167,i6 0)] rfl ⟨bf,Ae⟩ ?_
   refine D8 (fun m a w'=>∃ (n101:Nat) (u:Nat) (aR7:Option Addr) (cR7:Nat),m=(1+(List.range t).countP (fun b=>Iz (gd c.Aa.xs p) b)) - u∧n86≤n101∧(u≤(1+(List.range t).countP (fun b=>Iz (gd c.Aa.xs p) b)))∧St 181 [(1,pt z),(3,.slice aR7 ((Gu c i++I9 c k++Ob c p++Jb c p u).length) cR7),(QL c p u),(11,Ac p),(He c),(150,Ac p),(PQ c p t),(167,Ac u)] [] ⟨w,n101,[(Ak w),(EZ c z),(EY c z),(VD c k i z p aR7 u cR7)]⟩ a w') ((1+(List.range t).countP (fun b=>Iz (gd c.Aa.xs p) b)) - 0) ?_ ?_
   ·intro a w' hs;exact⟨n86,0,aR5,cR5,rfl,Nat.le_refl _,Nat.zero_le _,by(try dsimp only[JZ,JF,EY,JB,EZ,Lu,VD,O1,Jo,Jl,VC,PQ,MN,Jj,Jm,He,H9,FW,ED,Ij,QL,Fg]at hs ⊢);rw[show Jb c p 0=[]from rfl,List.append_nil,show 16*(Ec c p+((0:Nat):Int))=16*Ec c p from by omega];exact hs⟩
   rintro m a w' ⟨n101,u,aR7,cR7,rfl,hn100,hku,hs⟩
   refine(?_:G Tryd.prog 181 [(1,pt z),(3,.slice aR7 ((Gu c i++I9 c k++Ob c p++Jb c p u).length) cR7),(QL c p u),(11,Ac p),(He c),(150,Ac p),(PQ c p t),(167,Ac u)] [] ⟨w,n101,[(Ak w),(EZ c z),(EY c z),(VD c k i z p aR7 u cR7)]⟩ _ _ _) a w' hs
   clear hs a w'
   have hlu:=Z4 (c:=c) (p:=p) (n:=u)
   refine CW ?_
   by_cases h102:(u:Int)<((1+(List.range t).countP (fun b=>Iz (gd c.Aa.xs p) b):Nat):Int)
   ·refine q_c 11 6 [1] [[oT],[o0,o0,o0,o0,o0,o0]] [BT ((u:Int)<((1+(List.range t).countP (fun b=>Iz (gd c.Aa.xs p) b):Nat):Int))] [(1,pt z),(QL c p u),(11,Ac p),(He c),(150,Ac p),(PQ c p t),(167,Ac u),(169,.slice aR7 ((Gu c i++I9 c k++Ob c p++Jb c p u).length) cR7),(174,.slice (some ⟨n101,0,none⟩) 1 1)] ⟨w,n101+1,[(Ak w),(EZ c z),(EY c z),(VD c k i z p aR7 u cR7),(bk n101 #[i6 (16*(Ec c p+(u:Int))),i6 16,i6 9,Ac p,i6 0] 101)]⟩ rfl ⟨bt,Ae⟩ ?_
    refine PH z 3 4 (Gu c i++I9 c k++Ob c p++Jb c p u) [(⟨16*(Ec c p+(u:Int)),16,(⟨9,(p:Int),0⟩:CZ)⟩:BJ)] BJ.cells 101 5 40 (.slice aR7 ((Gu c i++I9 c k++Ob c p++Jb c p u).length) cR7) n101 1 1 #[i6 (16*(Ec c p+(u:Int))),i6 16,i6 9,Ac p,i6 0] 101 (0,0) true (some 175) (by simp only[List.length_cons,List.length_nil,List.length_append];omega) (show z≤n101+1 by omega) (fun ax103 cp104 n105 (hn106:n101+1≤n105) => ?_)
    refine AZ 8 0 [] [[o0],[o0,(ov (i6 ((16*(Ec c p+(u:Int)))+16))),o0],[(ov (i6 ((u+1:Nat):Int))),o0]] [Wr ((16*(Ec c p+(u:Int)):Int)+16) ((16*(Ec c p+(u:Int)))+16),Wr ((u:Int)+1) (((u+1:Nat):Int))] [(1,pt z),(4,i6 ((16*(Ec c p+(u:Int)))+16)),(11,Ac p),(He c),(150,Ac p),(PQ c p t),(167,i6 ((u+1:Nat):Int)),(3,.slice ax103 ((Gu c i++I9 c k++Ob c p++Jb c p u++[(⟨16*(Ec c p+(u:Int)),16,(⟨9,(p:Int),0⟩:CZ)⟩:BJ)]).length) cp104)] rfl ⟨BP,BP,Ae⟩ ?_
    refine Cc [0,1,2,3] [(Ak w),(EZ c z),(EY c z),(BV z 101 5 BJ.cells (.slice ax103 ((Gu c i++I9 c k++Ob c p++Jb c p u++[(⟨16*(Ec c p+(u:Int)),16,(⟨9,(p:Int),0⟩:CZ)⟩:BJ)]).length) cp104) (Gu c i++I9 c k++Ob c p++Jb c p u++[(⟨16*(Ec c p+(u:Int)),16,(⟨9,(p:Int),0⟩:CZ)⟩:BJ)]))] rfl rfl ?_
    refine BI [1,3,4,11,149,150,166,167] [(1,pt z),(3,.slice ax103 ((Gu c i++I9 c k++Ob c p++Jb c p u++[(⟨16*(Ec c p+(u:Int)),16,(⟨9,(p:Int),0⟩:CZ)⟩:BJ)]).length) cp104),(4,i6 ((16*(Ec c p+(u:Int)))+16)),(11,Ac p),(He c),(150,Ac p),(PQ c p t),(167,i6 ((u+1:Nat):Int))] ?_
    refine BR (fun a w' hs=>⟨(1+(List.range t).countP (fun b=>Iz (gd c.Aa.xs p) b)) - (u+1),by omega,n105,(u+1),ax103,cp104,rfl,by omega,by omega,by(try dsimp only[JZ,JF,EY,JB,EZ,Lu,VD,O1,Jo,Jl,PQ,MN,Jj,Jm,He,H9,FW,ED,Ij,QL,Fg]at hs ⊢);rw[Vg,←List.append_assoc,show 16*(Ec c p+((u+1:Nat):Int))=(16*(Ec c p+(u:Int)))+16 from by omega];exact hs⟩)
   refine Au 13 0 [0] [[oF],[(ov (i6 ((p+1:Nat):Int))),o0]] [BF ((u:Int)<((1+(List.range t).countP (fun b=>Iz (gd c.Aa.xs p) b):Nat):Int)),Wr ((p:Int)+1) (((p+1:Nat):Int))] [(1,pt z),(3,.slice aR7 ((Gu c i++I9 c k++Ob c p++Jb c p u).length) cR7),(QL c p u),(He c),(150,i6 ((p+1:Nat):Int))] rfl ⟨bf,BP,Ae⟩ ?_
   have hnn:1+Jz (gd c.Aa.xs p)=u:=by rw[←tabsN_touch (Zar (hfine.parts p (by omega))),show 16=t by omega];omega
   refine BI [1,3,4,149,150] [(1,pt z),(3,.slice aR7 ((Gu c i++I9 c k++Ob c p++Jb c p u).length) cR7),(QL c p u),(He c),(150,i6 ((p+1:Nat):Int))] ?_
   refine BR (fun a w' hs=>⟨c.Aa.xs.length - (p+1),by omega,n101,(p+1),aR7,cR7,rfl,by omega,by omega,by(try dsimp only[JZ,JF,EY,JB,EZ,Lu,VD,O1,Jo,Jl,PQ,MN,Jj,Jm,He,H9,FW,ED,Ij,QL,Fg]at hs ⊢);rw[YW,hnn,←List.append_assoc,show 16*Ec c (p+1)=16*(Ec c p+(u:Int))from by rw[RV];omega];exact hs⟩)
  refine Au 15 0 [0] [[oF],[o0,o0]] [BF ((p:Int)<(c.Aa.xs.length:Int))] [(2,.slice aR5 ((Gu c i++I9 c k++Ob c p).length) cR5)] rfl ⟨bf,Ae⟩ ?_
  refine Az [] [] (.slice aR5 ((Gu c i++I9 c k++Ob c p).length) cR5) Ae ?_
  intro w107 hw107
  have hpo:Gu c i++I9 c k++Ob c p=Dj c:=by rw[show i=c.Aa.xs.length by omega,show k=c.Aj.xs.length by omega,show p=c.Aa.xs.length by omega];rfl
  have hrow:=hw107.at (i:=3) rfl
  (try dsimp only[JZ,JF,EY,JB,EZ,Lu,O1,Jo,Jl,MN,Jj,Jm,He,H9,FW,ED,Ij,Fg]at hrow)
  rw[hpo]at hrow ⊢
  exact⟨_,_,rfl,hz ▸ Tz (fun _=>rfl) hrow (by have:=pieces_len hfine;omega),AB hw107⟩
 refine Au 10 0 [1] [[o0,(ov (i6 (at8 % 16))),oT],[o0,(ov (i6 (at8+1))),o0]] [i6 (Int.tmod (at8) 16)=i6 (at8 % 16),NT (at8 % 16) 0,Wr ((at8:Int)+1) (at8+1)] [(1,pt z),(Ij c k i aR1 cR1),(4,i6 (at8+1))] rfl ⟨congrArg (Value.int .i64) (Zah (by omega) (by omega)),nt,BP,Ae⟩ ?_
 refine BR (fun a w' hs=>⟨(16*NQ c - (at8+1)).toNat,by omega,n80,(at8+1),rfl,by omega,by omega,hs⟩)
def nP(p:Ar):Ar:={ p with Tables:=⟨none,0,p.Tables.xs⟩ }
def nC(p:AA):AA:={ p with DK:=⟨none,0,p.DK.xs⟩ }
structure Fold where
 bar:Int
 ps:List Ar
 cs:List AA
 ch:Int
 fin:Int
def U4(p:Ar)(at_:Int):Ar:=if p.Root=0 then{ p with Root:=at_ / 16 }else{ p with Tables:=⟨none,0,p.Tables.xs++[at_ / 16]⟩ }
def dstF(p:AA)(y:BJ):AA:={ p with DK:=⟨none,0,p.DK.xs++[⟨y.AC.Index,y.AC.Port,y.At⟩]⟩ }
def Jf(F:Fold)(y:BJ):Fold :=
 if y.AC.Kind=2 then{ F with bar:=y.At,fin:=y.At+y.Size }
 else if y.AC.Kind=3 then{ F with ps:=F.ps.set y.AC.Index.toNat { gd F.ps y.AC.Index.toNat with Lock:=y.At },fin:=y.At+y.Size }
 else if y.AC.Kind=4 then{ F with ps:=F.ps.set y.AC.Index.toNat { gd F.ps y.AC.Index.toNat with Ju:=y.At },fin:=y.At+y.Size }
 else if y.AC.Kind=5 then{ F with ps:=F.ps.set y.AC.Index.toNat { gd F.ps y.AC.Index.toNat with State:=y.At },fin:=y.At+y.Size }
 else if y.AC.Kind=6 then{ F with cs:=F.cs.set y.AC.Index.toNat { gd F.cs y.AC.Index.toNat with Lock:=y.At },ch:=y.AC.Index,fin:=y.At+y.Size }
 else if y.AC.Kind=7 then{ F with cs:=F.cs.set y.AC.Index.toNat { gd F.cs y.AC.Index.toNat with Pv:=y.At },fin:=y.At+y.Size }
 else if y.AC.Kind=8 then{ F with cs:=F.cs.set F.ch.toNat (dstF (gd F.cs F.ch.toNat) y),fin:=y.At+y.Size }
 else{ F with ps:=F.ps.set y.AC.Index.toNat (U4 (gd F.ps y.AC.Index.toNat) y.At),fin:=y.At+y.Size }
def TL(c:Ai)(k:Nat):AA:=⟨0,0,(gd (CB c (k:Int) true) 0).partition,(gd (CB c (k:Int) true) 0).port,⟨none,0,[]⟩⟩
def F0(c:Ai):Fold:=⟨0,(List.range c.Aa.xs.length).map (fun _=>⟨0,0,0,0,⟨none,0,[]⟩⟩),(List.range c.Aj.xs.length).map (TL c),0,16*c.Kernel⟩
theorem map_set{α:Type}{n k:Nat}{f g:Nat→α}{v:α}(h1:g k=v)(h2:∀ q,q≠k→g q=f q):((List.range n).map f).set k v=(List.range n).map g:=by
 apply List.ext_getElem (by simp)
 intro i hi hi'
 rw[List.getElem_set]
 simp only[List.getElem_map,List.getElem_range]
 split
 ·rename_i e;subst e;exact h1.symm
 rename_i e;exact(h2 i (fun x=>e x.symm)).symm
theorem V8{α:Type}[Inhabited α]{n k:Nat}{f:Nat→α}(hk:k<n):gd ((List.range n).map f) k=f k:=by rw[EW (by simpa using hk)];simp
def YK(c:Ai)(i:Nat):Nat→Ar:=fun p=>if p<i then PM c p else⟨0,0,0,0,⟨none,0,[]⟩⟩
theorem foldP(c:Ai):∀ (i:Nat),i≤c.Aa.xs.length→∃ fin,(Gu c i).foldl Jf (F0 c)=⟨16*c.Kernel,(List.range c.Aa.xs.length).map (YK c i),(F0 c).cs,0,fin⟩∧(i=0→fin=16*c.Kernel+2)
 | 0,_=>⟨16*c.Kernel+2,rfl,fun _=>rfl⟩
 | i+1,h=>by
  obtain⟨fin,e, -⟩:=foldP c i (by omega)
  refine⟨CV c i+2+17+5, ?_,fun h=>by omega⟩
  rw[Ze,List.foldl_append,List.foldl_append,List.foldl_append,e]
  have hl:i<((List.range c.Aa.xs.length).map (YK c i)).length:=by simp;omega
  have hg:gd ((List.range c.Aa.xs.length).map (YK c i)) i=⟨0,0,0,0,⟨none,0,[]⟩⟩:=by rw[V8 (by omega)];simp[YK]
  simp only[List.foldl_cons,List.foldl_nil,Jf,Int.toNat_natCast]
  simp only[if_true,if_false,reduceIte,show ¬ ((3:Int)=2)by decide,show ¬ ((4:Int)=2)by decide,show ¬ ((4:Int)=3)by decide,show ¬ ((5:Int)=2)by decide,show ¬ ((5:Int)=3)by decide,show ¬ ((5:Int)=4)by decide]
  rw[hg,MG hl,List.set_set,MG (by simpa using hl),List.set_set]
  rw[map_set (g:=YK c (i+1)) (by simp[YK,PM]) (fun q hq=>by unfold YK;by_cases e:q<i <;> simp[e,show(q<i+1)=(q<i∨q=i)by apply propext;omega,hq])]
theorem Zbc(c:Ai)(k:Nat)(b:Int)(ps:List Ar)(cs:List AA)(hk:k<cs.length)(hc0:(gd cs k).DK=⟨none,0,[]⟩)(fin:Int)(l:List Gs)(hl:∀ j,j<l.length→gd l j=gd (CB c (k:Int) false) j):∀ (j:Nat),j≤l.length→∃ fin',((List.range j).map (fun j=>VR c k (gd l j) j)).foldl Jf ⟨b,ps,cs,(k:Int),fin⟩=⟨b,ps,cs.set k { gd cs k with DK:=⟨none,0,Fp c k j⟩ },(k:Int),fin'⟩
 | 0,_=>⟨fin,by
  show _=(⟨b,ps,cs.set k { gd cs k with DK:=⟨none,0,[]⟩ },(k:Int),fin⟩:Fold)
  rw[←hc0,show({ gd cs k with DK:=(gd cs k).DK }:AA)=gd cs k from rfl,EW hk,List.set_getElem_self];rfl⟩
 | j+1,h=>by
  obtain⟨fin',e⟩:=Zbc c k b ps cs hk hc0 fin l hl j (by omega)
  refine⟨IE c k j+portOf (gd c.Aj.xs k), ?_⟩
  rw[List.range_succ,List.map_append,List.foldl_append,e]
  simp only[List.map_cons,List.map_nil,List.foldl_cons,List.foldl_nil,Jf,VR,Int.toNat_natCast]
  simp only[if_true,if_false,reduceIte,show ¬ ((8:Int)=2)by decide,show ¬ ((8:Int)=3)by decide,show ¬ ((8:Int)=4)by decide,show ¬ ((8:Int)=5)by decide,show ¬ ((8:Int)=6)by decide,show ¬ ((8:Int)=7)by decide]
  rw[MG hk,List.set_set,dstF,X4,hl j (by omega)]
  rfl
def WI(c:Ai)(k:Nat):Nat→AA:=fun q=>if q<k then JV c q ⟨none,0,Fp c q (KD c q)⟩else TL c q
theorem foldC(c:Ai)(b:Int)(ps:List Ar)(fin:Int):∀ (k:Nat),k≤c.Aj.xs.length→∃ ch fin',(I9 c k).foldl Jf ⟨b,ps,(F0 c).cs,0,fin⟩=⟨b,ps,(List.range c.Aj.xs.length).map (WI c k),ch,fin'⟩∧(k=0→fin'=fin)
 | 0,_=>⟨0,fin,rfl,fun _=>rfl⟩
 | k+1,h=>by
  obtain⟨ch,fin',e, -⟩:=foldC c b ps fin k (by omega)
  have hg:gd ((List.range c.Aj.xs.length).map (WI c k)) k=TL c k:=by rw[V8 (by omega)];simp[WI]
  have hl:k<((List.range c.Aj.xs.length).map (WI c k)).length:=by simp;omega
  rw[Zb,List.foldl_append,e,VO,List.foldl_append]
  simp only[List.foldl_cons,List.foldl_nil,Jf,Int.toNat_natCast]
  simp only[if_true,if_false,reduceIte,show ¬ ((6:Int)=2)by decide,show ¬ ((6:Int)=3)by decide,show ¬ ((6:Int)=4)by decide,show ¬ ((6:Int)=5)by decide,show ¬ ((7:Int)=2)by decide,show ¬ ((7:Int)=3)by decide,show ¬ ((7:Int)=4)by decide,show ¬ ((7:Int)=5)by decide,show ¬ ((7:Int)=6)by decide]
  rw[hg,MG hl,List.set_set]
  obtain⟨fin'',e2⟩:=Zbc c k b ps (((List.range c.Aj.xs.length).map (WI c k)).set k { TL c k with Lock:=CX c k,Pv:=CX c k+2 }) (by simpa using hl) (by rw[MG hl];rfl) (CX c k+2+BL (gd c.Aj.xs k)) (CB c (k:Int) false) (fun j hj=>rfl) (CB c (k:Int) false).length (Nat.le_refl _)
  refine⟨(k:Int),fin'', ?_,fun h=>by omega⟩
  rw[IX,e2,MG hl,List.set_set,map_set (g:=WI c (k+1)) (by simp only[WI,Nat.lt_succ_self,if_true];rfl) (fun q hq=>by unfold WI;by_cases e:q<k <;> simp[e,show(q<k+1)=(q<k∨q=k)by apply propext;omega,hq])]
theorem Za8{c:Ai}(hf:Fine c):∀ (p:Nat),1≤Ec c p
 | 0=>by
  have h1:=(QW hf _ (Nat.le_refl _)).1
  have h2:=hf.kn
  show 1≤NQ c
  unfold NQ
  unfold CV at h1
  omega
 | p+1=>by have:=Za8 hf p;rw[RV];omega
theorem foldTabs(c:Ai)(hf:Fine c)(p:Nat)(b ch fin:Int)(ps:List Ar)(cs:List AA)(hp:p<ps.length)(h0:gd ps p=PM c p):∀ (u:Nat),(Jb c p (u+1)).foldl Jf ⟨b,ps,cs,ch,fin⟩=⟨b,ps.set p (GU c p ⟨none,0,FP c p u⟩),cs,ch,16*(Ec c p+(u:Int))+16⟩
 | 0=>by
  rw[Vg]
  simp only[Jb,List.range_zero,List.map_nil,List.nil_append,List.foldl_cons,List.foldl_nil,Jf,Int.toNat_natCast]
  simp only[if_true,if_false,reduceIte,show ¬ ((9:Int)=2)by decide,show ¬ ((9:Int)=3)by decide,show ¬ ((9:Int)=4)by decide,show ¬ ((9:Int)=5)by decide,show ¬ ((9:Int)=6)by decide,show ¬ ((9:Int)=7)by decide,show ¬ ((9:Int)=8)by decide]
  rw[h0]
  have:U4 (PM c p) (16*(Ec c p+((0:Nat):Int)))=GU c p ⟨none,0,FP c p 0⟩:=by
   unfold U4
   rw[if_pos (show(PM c p).Root=0 from rfl)]
   show(⟨CV c p,CV c p+2,CV c p+2+17,_,⟨none,0,[]⟩⟩:Ar)=_
   rw[show 16*(Ec c p+((0:Nat):Int)) / 16=Ec c p by omega];rfl
  rw[this]
 | u+1=>by
  have ht:=Za8 hf p
  rw[Vg,List.foldl_append,foldTabs c hf p b ch fin ps cs hp h0 u]
  simp only[List.foldl_cons,List.foldl_nil,Jf,Int.toNat_natCast]
  simp only[if_true,if_false,reduceIte,show ¬ ((9:Int)=2)by decide,show ¬ ((9:Int)=3)by decide,show ¬ ((9:Int)=4)by decide,show ¬ ((9:Int)=5)by decide,show ¬ ((9:Int)=6)by decide,show ¬ ((9:Int)=7)by decide,show ¬ ((9:Int)=8)by decide]
  rw[MG hp,List.set_set]
  have:U4 (GU c p ⟨none,0,FP c p u⟩) (16*(Ec c p+((u+1:Nat):Int)))=GU c p ⟨none,0,FP c p (u+1)⟩:=by
   unfold U4
   rw[if_neg (show ¬ (GU c p ⟨none,0,FP c p u⟩).Root=0 by show ¬ Ec c p=0;omega)]
   rw[YM]
   show(⟨CV c p,CV c p+2,CV c p+2+17,Ec c p,⟨none,0,FP c p u++[_]⟩⟩:Ar)=_
   rw[show 16*(Ec c p+((u+1:Nat):Int)) / 16=Ec c p+1+(u:Int)by omega];rfl
  rw[this]
def psT(c:Ai)(i:Nat):Nat→Ar:=fun p=>if p<i then GU c p ⟨none,0,FP c p (Jz (gd c.Aa.xs p))⟩else PM c p
theorem foldT(c:Ai)(hf:Fine c)(b ch fin:Int)(cs:List AA):∀ (i:Nat),i≤c.Aa.xs.length→∃ fin',(Ob c i).foldl Jf ⟨b,(List.range c.Aa.xs.length).map (psT c 0),cs,ch,fin⟩=⟨b,(List.range c.Aa.xs.length).map (psT c i),cs,ch,fin'⟩∧(i=0→fin'=fin)∧(0<i→fin'=16*Ec c i)
 | 0,_=>⟨fin,rfl,fun _=>rfl,fun h=>by omega⟩
 | i+1,h=>by
  obtain⟨fin',e, -, -⟩:=foldT c hf b ch fin cs i (by omega)
  have hl:i<((List.range c.Aa.xs.length).map (psT c i)).length:=by simp;omega
  refine⟨16*(Ec c i+((Jz (gd c.Aa.xs i):Nat):Int))+16, ?_,fun h=>by omega,fun _ => ?_⟩
  ·rw[YW,List.foldl_append,e,Nat.add_comm 1 (Jz (gd c.Aa.xs i)),foldTabs c hf i b ch fin' _ cs hl (by rw[V8 (by omega)];simp[psT])]
   rw[map_set (g:=psT c (i+1)) (by simp[psT]) (fun q hq=>by unfold psT;by_cases e:q<i <;> simp[e,show(q<i+1)=(q<i∨q=i)by apply propext;omega,hq])]
  rw[RV];omega
theorem fold_all(c:Ai)(hf:Fine c):∃ ch fin,(Dj c).foldl Jf (F0 c)=⟨16*c.Kernel,(List.range c.Aa.xs.length).map (psT c c.Aa.xs.length),(List.range c.Aj.xs.length).map (WI c c.Aj.xs.length),ch,fin⟩∧(fin+16 - 1) / 16=Ec c c.Aa.xs.length:=by
 obtain⟨f1,e1,g1⟩:=foldP c _ (Nat.le_refl _)
 obtain⟨ch,f2,e2,g2⟩:=foldC c (16*c.Kernel) ((List.range c.Aa.xs.length).map (YK c c.Aa.xs.length)) f1 _ (Nat.le_refl _)
 have hpt:(List.range c.Aa.xs.length).map (YK c c.Aa.xs.length)=(List.range c.Aa.xs.length).map (psT c 0):=List.map_congr_left fun p hp=>by simp[YK,psT,List.mem_range.1 hp]
 obtain⟨f3,e3,g3,g4⟩:=foldT c hf (16*c.Kernel) ch f2 ((List.range c.Aj.xs.length).map (WI c c.Aj.xs.length)) _ (Nat.le_refl _)
 refine⟨ch,f3, ?_, ?_⟩
 ·unfold Dj
  rw[List.foldl_append,List.foldl_append,e1,e2,hpt,e3]
 by_cases h0:c.Aa.xs.length=0
 ·have hc0:c.Aj.xs.length=0:=by
   rcases Nat.eq_zero_or_pos c.Aj.xs.length with h | h
   ·exact h
   exfalso
   have:=(hf.Yk h).1
   rw[Rw]at this
   unfold J4 Gt at this
   rw[h0]at this
   simp at this
  have a1:=g1 h0;have a2:=g2 hc0;have a3:=g3 h0
  rw[h0,show Ec c 0=(CX c c.Aj.xs.length+16 - 1) / 16 from rfl,hc0,show CX c 0=CV c c.Aa.xs.length from rfl,h0,show CV c 0=c.Kernel*16+2+24*((0:Nat):Int)from rfl]
  omega
 have a4:=g4 (by omega)
 omega
theorem Np{α β:Type}[Inhabited α][Inhabited β]{f:α→β}{xs:List α}{n:Nat}(h:n<xs.length):gd (xs.map f) n=f (gd xs n):=by rw[EW (by simpa using h),EW h];simp
theorem Si{α β:Type}[Inhabited α]{f:α→β}{xs:List α}{n:Nat}{T:α}(hn:n<xs.length)(h:f T=f (gd xs n)):(xs.set n T).map f=xs.map f:=by
 rw[List.map_set,h,EW hn,←List.getElem_map (f:=f) (h:=by simpa using hn),List.set_getElem_self]
def BX(c:Ai)(m:Nat):Fold:=((Dj c).take m).foldl Jf (F0 c)
theorem JU{c:Ai}{m:Nat}(h:m<(Dj c).length):BX c (m+1)=Jf (BX c m) (gd (Dj c) m):=by
 unfold BX;rw[take_snoc h,List.foldl_append];rfl
def WY(c:Ai)(y:BJ):Prop:=2≤y.AC.Kind∧y.AC.Kind≤9∧0≤y.At∧y.At≤200000∧0≤y.Size∧y.Size≤1000∧0≤y.AC.Index∧y.AC.Index≤1000∧0≤y.AC.Port∧y.AC.Port≤1000 ∧
 ((y.AC.Kind=3∨y.AC.Kind=4∨y.AC.Kind=5∨y.AC.Kind=9)→y.AC.Index<(c.Aa.xs.length:Int))∧((y.AC.Kind=6∨y.AC.Kind=7)→y.AC.Index<(c.Aj.xs.length:Int))∧(y.AC.Kind=8→1≤c.Aj.xs.length)
theorem pc_mem{c:Ai}(hf:Fine c):∀ y∈Dj c,WY c y:=by
 have hkn:=hf.kn;have hpn:=hf.pn;have hcn:=hf.cn
 intro y hy
 unfold Dj at hy
 rw[List.mem_append,List.mem_append]at hy
 rcases hy with(hy | hy) | hy
 ·unfold Gu at hy
  rw[List.mem_append]at hy
  rcases hy with hy | hy
  ·simp only[List.mem_singleton]at hy;subst hy;unfold WY;simp only;omega
  simp only[List.mem_flatMap,List.mem_range]at hy
  obtain⟨i,hi,hy⟩:=hy
  simp only[pcPart,List.mem_cons,List.not_mem_nil,or_false]at hy
  have hp:CV c i=c.Kernel*16+2+24*(i:Int):=rfl
  rcases hy with rfl | rfl | rfl <;> (unfold WY;simp only;omega)
 ·simp only[I9,List.mem_flatMap,List.mem_range]at hy
  obtain⟨k,hk,hy⟩:=hy
  have hb:=QW hf k (by omega)
  have hp0:CV c c.Aa.xs.length=c.Kernel*16+2+24*(c.Aa.xs.length:Int):=rfl
  have hs:=NZ (gd c.Aj.xs k)
  have hp:=Uh (gd c.Aj.xs k)
  have hd:=hf.Yk hk
  unfold VO at hy
  rw[List.mem_append]at hy
  rcases hy with hy | hy
  ·simp only[List.mem_cons,List.not_mem_nil,or_false]at hy
   rcases hy with rfl | rfl <;> (unfold WY;simp only;omega)
  simp only[IX,List.mem_map,List.mem_range]at hy
  obtain⟨j,hj,rfl⟩:=hy
  have hdb:=dAt_bd hf hk (show j≤4 by unfold KD at hd;omega)
  have he:=Yc (k:=(k:Int)) (b:=false) (fun i hi=>O6 (hf.parts i hi)) hpn (gd (CB c (k:Int) false) j) (by rw[EW hj];exact List.getElem_mem hj)
  unfold WY VR;simp only;omega
 simp only[Ob,List.mem_flatMap,List.mem_range]at hy
 obtain⟨p,hp,hy⟩:=hy
 simp only[Jb,List.mem_map,List.mem_range]at hy
 obtain⟨u,hu,rfl⟩:=hy
 have ht:=RF hf p (by omega)
 have hn:=UD (gd c.Aa.xs p)
 unfold WY;simp only;omega
theorem pc_in{c:Ai}(hf:Fine c){m:Nat}(h:m<(Dj c).length):WY c (gd (Dj c) m):=pc_mem hf _ (by rw[EW h];exact List.getElem_mem h)
theorem pc_ink{F:Nat→Prop}{W:World}{c:Ai}(hf:Fine c):∀ i,i<(Dj c).length→BJ.ok F W (gd (Dj c) i):=fun i hi=>by
 obtain⟨a1,a2,a3,a4,a5,a6,a7,a8,a9,a10, -⟩:=pc_in hf hi
 exact⟨Qj a3 (by omega),Qj a5 (by omega),⟨Qj (by omega) (by omega),Qj a7 (by omega),Qj a9 (by omega)⟩⟩
theorem st2(F:Fold)(y:BJ)(h:y.AC.Kind=2):Jf F y=⟨y.At,F.ps,F.cs,F.ch,y.At+y.Size⟩:=by unfold Jf;rw[if_pos h]
theorem st3(F:Fold)(y:BJ)(h:y.AC.Kind=3):Jf F y=⟨F.bar,F.ps.set y.AC.Index.toNat { gd F.ps y.AC.Index.toNat with Lock:=y.At },F.cs,F.ch,y.At+y.Size⟩:=by unfold Jf;rw[if_neg (by omega),if_pos h]
theorem st4(F:Fold)(y:BJ)(h:y.AC.Kind=4):Jf F y=⟨F.bar,F.ps.set y.AC.Index.toNat { gd F.ps y.AC.Index.toNat with Ju:=y.At },F.cs,F.ch,y.At+y.Size⟩:=by unfold Jf;rw[if_neg (by omega),if_neg (by omega),if_pos h]
theorem st5(F:Fold)(y:BJ)(h:y.AC.Kind=5):Jf F y=⟨F.bar,F.ps.set y.AC.Index.toNat { gd F.ps y.AC.Index.toNat with State:=y.At },F.cs,F.ch,y.At+y.Size⟩:=by unfold Jf;rw[if_neg (by omega),if_neg (by omega),if_neg (by omega),if_pos h]
theorem st6(F:Fold)(y:BJ)(h:y.AC.Kind=6):Jf F y=⟨F.bar,F.ps,F.cs.set y.AC.Index.toNat { gd F.cs y.AC.Index.toNat with Lock:=y.At },y.AC.Index,y.At+y.Size⟩:=by unfold Jf;rw[if_neg (by omega),if_neg (by omega),if_neg (by omega),if_neg (by omega),if_pos h]
theorem st7(F:Fold)(y:BJ)(h:y.AC.Kind=7):Jf F y=⟨F.bar,F.ps,F.cs.set y.AC.Index.toNat { gd F.cs y.AC.Index.toNat with Pv:=y.At },F.ch,y.At+y.Size⟩:=by unfold Jf;rw[if_neg (by omega),if_neg (by omega),if_neg (by omega),if_neg (by omega),if_neg (by omega),if_pos h]
theorem st8(F:Fold)(y:BJ)(h:y.AC.Kind=8):Jf F y=⟨F.bar,F.ps,F.cs.set F.ch.toNat (dstF (gd F.cs F.ch.toNat) y),F.ch,y.At+y.Size⟩:=by unfold Jf;rw[if_neg (by omega),if_neg (by omega),if_neg (by omega),if_neg (by omega),if_neg (by omega),if_neg (by omega),if_pos h]
theorem st9(F:Fold)(y:BJ)(h:y.AC.Kind=9):Jf F y=⟨F.bar,F.ps.set y.AC.Index.toNat (U4 (gd F.ps y.AC.Index.toNat) y.At),F.cs,F.ch,y.At+y.Size⟩:=by unfold Jf;rw[if_neg (by omega),if_neg (by omega),if_neg (by omega),if_neg (by omega),if_neg (by omega),if_neg (by omega),if_neg (by omega)]
theorem foldUp_ch{c:Ai}(hf:Fine c):∀ (m:Nat),m≤(Dj c).length→0≤(BX c m).ch∧((BX c m).ch<(c.Aj.xs.length:Int)∨(BX c m).ch=0)
 | 0,_=>⟨Int.le_refl _,.inr rfl⟩
 | m+1,h=>by
  have ih:=foldUp_ch hf m (by omega)
  obtain⟨a1,a2,a3,a4,a5,a6,a7,a8,a9,a10,a11,a12,a13⟩:=pc_in hf (show m<(Dj c).length by omega)
  rw[JU (by omega)]
  generalize gd (Dj c) m=y at *
  have hk:y.AC.Kind=2∨y.AC.Kind=3∨y.AC.Kind=4∨y.AC.Kind=5∨y.AC.Kind=6∨y.AC.Kind=7∨y.AC.Kind=8∨y.AC.Kind=9:=by omega
  rcases hk with h | h | h | h | h | h | h | h
  ·rw[st2 _ _ h];exact ih
  ·rw[st3 _ _ h];exact ih
  ·rw[st4 _ _ h];exact ih
  ·rw[st5 _ _ h];exact ih
  ·rw[st6 _ _ h];exact⟨a7,.inl (a12 (.inl h))⟩
  ·rw[st7 _ _ h];exact ih
  ·rw[st8 _ _ h];exact ih
  rw[st9 _ _ h];exact ih
theorem ZP{c:Ai}(hf:Fine c):(BX c (Dj c).length).bar=16*c.Kernel∧(BX c (Dj c).length).ps=(List.range c.Aa.xs.length).map (psT c c.Aa.xs.length)∧(BX c (Dj c).length).cs=(List.range c.Aj.xs.length).map (WI c c.Aj.xs.length)∧((BX c (Dj c).length).fin+16 - 1) / 16=Ec c c.Aa.xs.length:=by
 obtain⟨ch,fin,e,h⟩:=fold_all c hf
 unfold BX
 rw[List.take_length,e]
 exact⟨rfl,rfl,rfl,h⟩
def P7(c:Ai)(k:Nat):List AA:=(List.range c.Aj.xs.length).map (fun q=>if q<k then TL c q else⟨0,0,0,0,⟨none,0,[]⟩⟩)
theorem csUp_zero{c:Ai}:P7 c 0=List.replicate c.Aj.xs.length ⟨0,0,0,0,⟨none,0,[]⟩⟩:=by
 unfold P7;apply List.ext_getElem (by simp);intro i h1 h2;simp
theorem csUp_len{c:Ai}{k:Nat}:(P7 c k).length=c.Aj.xs.length:=by simp[P7]
theorem csUp_at{c:Ai}{k:Nat}(h:k<c.Aj.xs.length):gd (P7 c k) k=⟨0,0,0,0,⟨none,0,[]⟩⟩:=by unfold P7;rw[V8 h];simp
theorem csUp_succ{c:Ai}{k:Nat}:(P7 c k).set k (TL c k)=P7 c (k+1):=by
 unfold P7
 rw[map_set (g:=fun q=>if q<k+1 then TL c q else⟨0,0,0,0,⟨none,0,[]⟩⟩) (by simp) (fun q hq=>by by_cases e:q<k <;> simp[e,show(q<k+1)=(q<k∨q=k)by apply propext;omega,hq])]
theorem csUp_all{c:Ai}:P7 c c.Aj.xs.length=(F0 c).cs:=List.map_congr_left fun q hq=>by simp[List.mem_range.1 hq]
theorem csUp_nil{c:Ai}{k:Nat}:(P7 c k).map AA.DK=List.replicate c.Aj.xs.length ⟨none,0,[]⟩:=by
 apply List.ext_getElem (by simp[P7])
 intro i h1 h2
 simp only[P7,List.getElem_map,List.getElem_range,List.getElem_replicate]
 split <;> rfl
theorem un_nP{c:Ai}{p:Nat}{x:Ar}{l:List Int}(h:nP x=GU c p ⟨none,0,l⟩):∃ a cp,x=GU c p ⟨a,cp,l⟩:=by
 obtain⟨x1,x2,x3,x4,a,cp,xs⟩:=x
 simp only[nP,GU,Ar.mk.injEq,Sl.mk.injEq,true_and]at h
 obtain⟨rfl,rfl,rfl,rfl,rfl⟩:=h
 exact⟨a,cp,rfl⟩
theorem un_nC{c:Ai}{k:Nat}{x:AA}{l:List BH}(h:nC x=JV c k ⟨none,0,l⟩):∃ a cp,x=JV c k ⟨a,cp,l⟩:=by
 obtain⟨x1,x2,x3,x4,a,cp,xs⟩:=x
 simp only[nC,JV,AA.mk.injEq,Sl.mk.injEq,true_and]at h
 obtain⟨rfl,rfl,rfl,rfl,rfl⟩:=h
 exact⟨a,cp,rfl⟩
theorem lay_of{c:Ai}(hf:Fine c){ps:List Ar}{cs:List AA}{a b:Option Addr}{n k:Nat}(h1:ps.map nP=(BX c (Dj c).length).ps)(h2:cs.map nC=(BX c (Dj c).length).cs):WF c ⟨(BX c (Dj c).length).bar,⟨a,n,ps⟩,⟨b,k,cs⟩,((BX c (Dj c).length).fin+16 - 1) / 16⟩:=by
 obtain⟨e1,e2,e3,e4⟩:=ZP hf
 rw[e2]at h1
 rw[e3]at h2
 have hl1:ps.length=c.Aa.xs.length:=by have:=congrArg List.length h1;simpa using this
 have hl2:cs.length=c.Aj.xs.length:=by have:=congrArg List.length h2;simpa using this
 refine⟨by show(BX c (Dj c).length).bar=c.Kernel*16;rw[e1];omega,e4,hl1, ?_,hl2, ?_⟩
 ·intro p hp
  refine un_nP (x:=gd ps p) ?_
  rw[←Np (f:=nP) (by omega),h1,V8 hp];simp[psT,hp]
 intro k hk
 refine un_nC (x:=gd cs k) ?_
 rw[←Np (f:=nC) (by omega),h2,V8 hk];simp[WI,hk]
theorem Sv{α:Type}{p:α→Prop}{xs:List α}{n:Nat}{v:α}(h:∀ x∈xs,p x)(hv:n<xs.length→p v):∀ x∈xs.set n v,p x:=by
 by_cases hn:n<xs.length
 ·intro x hx
  rcases List.mem_or_eq_of_mem_set hx with hx | rfl
  ·exact h x hx
  exact hv hn
 rw[List.set_eq_of_length_le (by omega)];exact h
theorem Rh{α:Type}[Inhabited α]{xs:List α}{n:Nat}(h:n<xs.length):gd xs n∈xs:=by rw[EW h];exact List.getElem_mem h
theorem Xf{c:Ai}(hf:Fine c):∀ (m:Nat),m≤(Dj c).length→(∀ x∈(BX c m).ps,x.Tables.xs.length≤m)∧(∀ x∈(BX c m).cs,x.DK.xs.length≤m)
 | 0,_=>by
  constructor
  ·intro x hx
   simp only[BX,List.take_zero,List.foldl_nil,F0,List.mem_map]at hx
   obtain⟨_,_,rfl⟩:=hx;exact Nat.le_refl _
  intro x hx
  simp only[BX,List.take_zero,List.foldl_nil,F0,List.mem_map]at hx
  obtain⟨_,_,rfl⟩:=hx;exact Nat.le_refl _
 | m+1,h=>by
  obtain⟨i1,i2⟩:=Xf hf m (by omega)
  have j1:∀ x∈(BX c m).ps,x.Tables.xs.length≤m+1:=fun x hx=>Nat.le_succ_of_le (i1 x hx)
  have j2:∀ x∈(BX c m).cs,x.DK.xs.length≤m+1:=fun x hx=>Nat.le_succ_of_le (i2 x hx)
  obtain⟨a1,a2, -⟩:=pc_in hf (show m<(Dj c).length by omega)
  rw[JU (by omega)]
  generalize gd (Dj c) m=y at *
  have hk:y.AC.Kind=2∨y.AC.Kind=3∨y.AC.Kind=4∨y.AC.Kind=5∨y.AC.Kind=6∨y.AC.Kind=7∨y.AC.Kind=8∨y.AC.Kind=9:=by omega
  rcases hk with h | h | h | h | h | h | h | h
  ·rw[st2 _ _ h];exact⟨j1,j2⟩
  ·rw[st3 _ _ h];exact⟨Sv j1 (fun hn=>show(gd (BX c m).ps y.AC.Index.toNat).Tables.xs.length≤m+1 from j1 _ (Rh hn)),j2⟩
  ·rw[st4 _ _ h];exact⟨Sv j1 (fun hn=>show(gd (BX c m).ps y.AC.Index.toNat).Tables.xs.length≤m+1 from j1 _ (Rh hn)),j2⟩
  ·rw[st5 _ _ h];exact⟨Sv j1 (fun hn=>show(gd (BX c m).ps y.AC.Index.toNat).Tables.xs.length≤m+1 from j1 _ (Rh hn)),j2⟩
  ·rw[st6 _ _ h];exact⟨j1,Sv j2 (fun hn=>show(gd (BX c m).cs y.AC.Index.toNat).DK.xs.length≤m+1 from j2 _ (Rh hn))⟩
  ·rw[st7 _ _ h];exact⟨j1,Sv j2 (fun hn=>show(gd (BX c m).cs y.AC.Index.toNat).DK.xs.length≤m+1 from j2 _ (Rh hn))⟩
  ·rw[st8 _ _ h]
   refine⟨j1,Sv j2 (fun hn => ?_)⟩
   have:=i2 _ (Rh hn)
   simp only[dstF,List.length_append,List.length_singleton];omega
  rw[st9 _ _ h]
  refine⟨Sv j1 (fun hn => ?_),j2⟩
  have:=i1 _ (Rh hn)
  unfold U4
  split
  ·exact Nat.le_succ_of_le this
  simp only[List.length_append,List.length_singleton];omega
theorem tabF_pos{p:Ar}{a:Int}(h:p.Root=0):U4 p a={ p with Root:=a / 16 }:=by unfold U4;rw[if_pos h]
theorem tabF_neg{p:Ar}{a:Int}(h:¬ p.Root=0):U4 p a={ p with Tables:=⟨none,0,p.Tables.xs++[a / 16]⟩ }:=by unfold U4;rw[if_neg h]
theorem rof_no(w:World)(c:Ai)(hc:Ai.ok Any w c)(hok:Ep c=false):Calls Tryd.prog 12 #[.agg (Ai.arr c)] w fun e w'=>e = .returned (.tuple #[.agg #[.int .i64 0,.slice none 0 0,.slice none 0 0,.int .i64 0],.int .i64 150])∧Ce (fun _=>False) w w':=by
 obtain⟨z,hz⟩:∃ z,z=w.heap.size:=⟨_,rfl⟩
 refine Bf (args:=[.agg (Ai.arr c)]) 190 ⟨w,z,[(Ak w)]⟩ Tryd.func12 rfl (by kernel_rfl) (by kernel_rfl) (Ed hz) ?_
 refine Di [0] [(0,.agg (Ai.arr c))] ?_
 refine q_c 7 1 [] [[o0,o0,o0],[(an 7 1)]] [Qb z,Qb z,Qb z,Qb z,Qb z,Qb z,Qb z] [(1,pt z),(2,pt (z+1)),(14,.agg (Ai.arr c))] ⟨w,z+2,[(Ak w),(bk z (Ai.arr c) 26),(bk (z+1) #[i6 0,.slice none 0 0,.slice none 0 0,i6 0] 58)]⟩ rfl ⟨rfl,rfl,rfl,rfl,rfl,rfl,rfl,Ae⟩ ?_
 refine Ba 25 #[.agg (Ai.arr c)] (some 15) (.bool false) (fun w1 hw1=>rmay_no w1 c (hc.ext (hw1.ext rfl) (fun _ h=>h)) hok) (fun n2 (hn3:z+2≤n2) => ?_)
 refine AZ 8 0 [1] [[o0],[o0,(an 4 2),o0]] [Qb (z+1),Qb (z+1),Qb (z+1),Qb (z+1)] [(2,pt (z+1)),(3,i6 150)] rfl ⟨rfl,rfl,rfl,rfl,Ae⟩ ?_
 refine Az [.at 2,.at 2,.at 2,.at 2] [Qb (z+1),Qb (z+1),Qb (z+1),Qb (z+1)] (.tuple #[.agg #[i6 0,.slice none 0 0,.slice none 0 0,i6 0],i6 150]) ⟨rfl,rfl,rfl,rfl,Ae⟩ ?_
 intro w4 hw4
 exact⟨rfl,AB hw4⟩
section
variable (b7:Nat)(c:Ai)(mm b5:Nat)(b6 n14:Nat)(n2 n20 n24:Nat)(y49:BJ)(n8 n16:Nat)(n10 n40 z:Nat)(csG:List AA)(y62:AA)(ax63:Option Addr)(cp64:Nat)(psG:List Ar)(y68:Ar)(ax70:Option Addr)(cp71 b42:Nat)(o43 cp38:Nat)(ax37:Option Addr)(w:World)(k:Nat)
abbrev F8:=bk b7 #[i6 ((BX c mm).bar),.slice (some ⟨b5,0,none⟩) c.Aa.xs.length c.Aa.xs.length,.slice (some ⟨b6,0,none⟩) c.Aj.xs.length c.Aj.xs.length,i6 0] 58
abbrev qo29_1:=bk n14 #[i6 0,.slice (some ⟨n14+1,0,none⟩) c.Aa.xs.length c.Aa.xs.length,.slice (some ⟨n2,0,none⟩) c.Aj.xs.length c.Aj.xs.length,i6 0] 58
abbrev qo29_2:=bk n2 #[i6 0,.slice (some ⟨n2+1,0,none⟩) c.Aa.xs.length c.Aa.xs.length,.slice (some ⟨n20,0,none⟩) c.Aj.xs.length c.Aj.xs.length,i6 0] 58
abbrev qo29_3:=bk n2 #[i6 0,.slice (some ⟨n24,0,none⟩) c.Aa.xs.length c.Aa.xs.length,.slice (some ⟨n2+1,0,none⟩) c.Aj.xs.length c.Aj.xs.length,i6 0] 58
abbrev V9:=bk b7 #[i6 y49.At,.slice (some ⟨b5,0,none⟩) c.Aa.xs.length c.Aa.xs.length,.slice (some ⟨b6,0,none⟩) c.Aj.xs.length c.Aj.xs.length,i6 0] 58
abbrev qo29_5:=bk n8 #[i6 0,.slice (some ⟨n2,0,none⟩) c.Aa.xs.length c.Aa.xs.length,.slice (some ⟨n8+1,0,none⟩) c.Aj.xs.length c.Aj.xs.length,i6 0] 58
abbrev qo29_6:=bk n16 #[i6 0,.slice (some ⟨n14,0,none⟩) c.Aa.xs.length c.Aa.xs.length,.slice (some ⟨n2,0,none⟩) c.Aj.xs.length c.Aj.xs.length,i6 0] 58
abbrev qo29_7:=bk n10 #[i6 0,.slice (some ⟨n2,0,none⟩) c.Aa.xs.length c.Aa.xs.length,.slice (some ⟨n8,0,none⟩) c.Aj.xs.length c.Aj.xs.length,i6 0] 58
abbrev Jc:=bk b7 #[i6 0,.slice (some ⟨b5,0,none⟩) c.Aa.xs.length c.Aa.xs.length,.slice (some ⟨b6,0,none⟩) c.Aj.xs.length c.Aj.xs.length,i6 0] 58
abbrev XC:=bk (n40+1) #[i6 y49.AC.Index,i6 y49.AC.Port,i6 y49.At] 103
abbrev Dt:=bk (z+1) #[i6 0,.slice none 0 0,.slice none 0 0,i6 0] 58
abbrev J6:=bk n40 (BJ.arr y49) 101
abbrev Dk:=bk z (Ai.arr c) 26
abbrev VK:=BV z 95 5 AA.cells (.slice (some ⟨b6,0,none⟩) c.Aj.xs.length c.Aj.xs.length) (csG.set (((BX c mm).ch).toNat) (⟨y62.Lock,y62.Pv,y62.Partition,y62.Port,(⟨ax63,cp64,(y62.DK.xs++[(⟨y49.AC.Index,y49.AC.Port,y49.At⟩:BH)])⟩:Sl BH)⟩:AA))
abbrev We:=BV z 65 5 Ar.cells (.slice (some ⟨b5,0,none⟩) c.Aa.xs.length c.Aa.xs.length) (psG.set ((y49.AC.Index).toNat) (⟨y68.Lock,y68.Ju,y68.State,y68.Root,(⟨ax70,cp71,(y68.Tables.xs++[y49.At / 16])⟩:Sl Int)⟩:Ar))
abbrev ZaT:=BV z 65 5 Ar.cells (.slice (some ⟨n14+1,0,none⟩) c.Aa.xs.length c.Aa.xs.length) (List.replicate c.Aa.xs.length (⟨0,0,0,0,(⟨none,0,[]⟩:Sl Int)⟩:Ar))
abbrev ZaM:=BV z 65 5 Ar.cells (.slice (some ⟨n2+1,0,none⟩) c.Aa.xs.length c.Aa.xs.length) (List.replicate c.Aa.xs.length (⟨0,0,0,0,(⟨none,0,[]⟩:Sl Int)⟩:Ar))
abbrev ZaW:=BV z 95 5 AA.cells (.slice (some ⟨n8+1,0,none⟩) c.Aj.xs.length c.Aj.xs.length) (List.replicate c.Aj.xs.length (⟨0,0,0,0,(⟨none,0,[]⟩:Sl BH)⟩:AA))
abbrev Yb:=BV z 65 5 Ar.cells (.slice (some ⟨n14,0,none⟩) c.Aa.xs.length c.Aa.xs.length) (List.replicate c.Aa.xs.length (⟨0,0,0,0,(⟨none,0,[]⟩:Sl Int)⟩:Ar))
abbrev ZaB:=BV z 95 5 AA.cells (.slice (some ⟨n2+1,0,none⟩) c.Aj.xs.length c.Aj.xs.length) (List.replicate c.Aj.xs.length (⟨0,0,0,0,(⟨none,0,[]⟩:Sl BH)⟩:AA))
abbrev Zai:=BV z 65 5 Ar.cells (.slice (some ⟨n24,0,none⟩) c.Aa.xs.length c.Aa.xs.length) (List.replicate c.Aa.xs.length (⟨0,0,0,0,(⟨none,0,[]⟩:Sl Int)⟩:Ar))
abbrev TU:=BV z 65 5 Ar.cells (.slice (some ⟨n2,0,none⟩) c.Aa.xs.length c.Aa.xs.length) (List.replicate c.Aa.xs.length (⟨0,0,0,0,(⟨none,0,[]⟩:Sl Int)⟩:Ar))
abbrev Ih:=BV z 65 5 Ar.cells (.slice (some ⟨b5,0,none⟩) c.Aa.xs.length c.Aa.xs.length) (List.replicate c.Aa.xs.length (⟨0,0,0,0,(⟨none,0,[]⟩:Sl Int)⟩:Ar))
abbrev ZaE:=BV z 95 5 AA.cells (.slice (some ⟨n20,0,none⟩) c.Aj.xs.length c.Aj.xs.length) (List.replicate c.Aj.xs.length (⟨0,0,0,0,(⟨none,0,[]⟩:Sl BH)⟩:AA))
abbrev qo29_24:=BV z 95 5 AA.cells (.slice (some ⟨n8,0,none⟩) c.Aj.xs.length c.Aj.xs.length) (List.replicate c.Aj.xs.length (⟨0,0,0,0,(⟨none,0,[]⟩:Sl BH)⟩:AA))
abbrev QU:=BV z 95 5 AA.cells (.slice (some ⟨n2,0,none⟩) c.Aj.xs.length c.Aj.xs.length) (List.replicate c.Aj.xs.length (⟨0,0,0,0,(⟨none,0,[]⟩:Sl BH)⟩:AA))
abbrev V6:=Ja z 3 1 (fun x:Int=>[i6 x]) ((psG.map Ar.Tables).eraseIdx ((y49.AC.Index).toNat))
abbrev ES:=BV z 65 5 Ar.cells (.slice (some ⟨b5,0,none⟩) c.Aa.xs.length c.Aa.xs.length) psG
abbrev EU:=BV z 95 5 AA.cells (.slice (some ⟨b6,0,none⟩) c.Aj.xs.length c.Aj.xs.length) csG
abbrev Vo:=Ja z 103 3 BH.cells ((csG.map AA.DK).eraseIdx (((BX c mm).ch).toNat))
abbrev Fb:=Ja z 3 1 (fun x:Int=>[i6 x]) (psG.map Ar.Tables)
abbrev Fe:=Ja z 103 3 BH.cells (csG.map AA.DK)
abbrev qo29_32:D7:=(26,.agg #[i6 0,.slice (some ⟨n14,0,none⟩) c.Aa.xs.length c.Aa.xs.length,.slice (some ⟨n2,0,none⟩) c.Aj.xs.length c.Aj.xs.length,i6 0])
abbrev qo29_33:D7:=(26,.agg #[i6 0,.slice (some ⟨n2,0,none⟩) c.Aa.xs.length c.Aa.xs.length,.slice (some ⟨n8,0,none⟩) c.Aj.xs.length c.Aj.xs.length,i6 0])
abbrev VZ:D7:=(168,.slice (some ⟨b5,0,none⟩) c.Aa.xs.length c.Aa.xs.length)
abbrev Yr:D7:=(21,.slice (some ⟨n2,0,none⟩) c.Aa.xs.length c.Aa.xs.length)
abbrev Vw:D7:=(131,.slice (some ⟨b6,0,none⟩) c.Aj.xs.length c.Aj.xs.length)
abbrev Y3:D7:=(25,.slice (some ⟨n2,0,none⟩) c.Aj.xs.length c.Aj.xs.length)
abbrev DT:D7:=(9,.slice (some ⟨b42,o43,none⟩) ((Dj c).length) cp38)
abbrev Ua:=(20,Ac c.Aa.xs.length)
abbrev TZ:=(24,Ac c.Aj.xs.length)
abbrev GK:=(29,Ac c.Aj.xs.length)
abbrev Dq:=(58,i6 (((Dj c).length:Nat):Int))
abbrev Gf:D7:=(9,.slice ax37 ((Dj c).length) cp38)
abbrev Fj:=(59,i6 ((mm+1:Nat):Int))
abbrev BB:=(2,pt (z+1))
abbrev HY:=(12,pt n40)
abbrev D9:=(10,i6 (y49.At+y49.Size))
abbrev Ou:=(4,pt n2)
abbrev CO:=(4,pt b7)
abbrev Ik:=[(Ak w),(Dk c z),(Dt z),(Ih c b5 z),(BV z 95 5 AA.cells (.slice (some ⟨b6,0,none⟩) c.Aj.xs.length c.Aj.xs.length) (P7 c k)),(Jc b7 c b5 b6)]
abbrev ZaK:=[(Ak w),(Dk c z),(Dt z),(TU c n2 z),(qo29_24 c n8 z),(qo29_7 c n2 n8 n10)]
end
theorem rof_yes(w:World)(c:Ai)(hc:Ai.ok Any w c)(hok:Ep c=true):Calls Tryd.prog 12 #[.agg (Ai.arr c)] w fun e w'=>∃ L:Ha,e = .returned (.tuple #[.agg (Ha.arr L),.int .i64 0])∧WF c L∧Ha.ok (New w.heap.size) w' L∧Xu w.heap.size w' L∧Ce (fun _=>False) w w':=by
 obtain⟨z,hz⟩:∃ z,z=w.heap.size:=⟨_,rfl⟩
 refine Bf (args:=[.agg (Ai.arr c)]) 190 ⟨w,z,[(Ak w)]⟩ Tryd.func12 rfl (by kernel_rfl) (by kernel_rfl) (Ed hz) ?_
 have hfine:=Sz hok;have hkn:=hfine.kn;have hpn:=hfine.pn;have hcn:=hfine.cn
 refine Di [0] [(0,.agg (Ai.arr c))] ?_
 refine q_c 7 1 [] [[o0,o0,o0],[(an 7 1)]] [Qb z,Qb z,Qb z,Qb z,Qb z,Qb z,Qb z] [(1,pt z),(BB z),(14,.agg (Ai.arr c))] ⟨w,z+2,[(Ak w),(Dk c z),(Dt z)]⟩ rfl ⟨rfl,rfl,rfl,rfl,rfl,rfl,rfl,Ae⟩ ?_
 refine Ba 25 #[.agg (Ai.arr c)] (some 15) (.bool true) (fun w1 hw1=>rmay_yes w1 c (hc.ext (hw1.ext rfl) (fun _ h=>h)) hok) (fun n2 (hn3:z+2≤n2) => ?_)
 refine AZ 6 0 [0] [[o0]] [] [(1,pt z),(BB z),(16,.bool false)] rfl Ae ?_
 refine DZ 10 [0,1,2] [(Ak w),(Dk c z),(Dt z)] rfl rfl ?_
 refine Ci [(0,o0),(1,(a1 1)),(2,o0),(4,o0),(5,(a1 1)),(6,o0)] [1,2,20,24] [Qb z,Qb z] [true,true,true,false,true,true,true,false,false,false,false] [(1,pt z),(BB z),(Ua c),(TZ c)] ⟨rfl,rfl,Ae⟩ ?_
 refine Qo (fun x:{p:Nat×Nat×Nat×Nat // n2≤p.1∧n2≤p.2.1∧n2≤p.2.2.1∧n2≤p.2.2.2}=>([(1,pt z),(BB z),(4,pt x.1.2.2.2)],⟨w,x.1.1,[(Ak w),(Dk c z),(Dt z),(BV z 65 5 Ar.cells (.slice (some ⟨x.1.2.1,0,none⟩) c.Aa.xs.length c.Aa.xs.length) (List.replicate c.Aa.xs.length (⟨0,0,0,0,(⟨none,0,[]⟩:Sl Int)⟩:Ar))),(BV z 95 5 AA.cells (.slice (some ⟨x.1.2.2.1,0,none⟩) c.Aj.xs.length c.Aj.xs.length) (List.replicate c.Aj.xs.length (⟨0,0,0,0,(⟨none,0,[]⟩:Sl BH)⟩:AA))),(.blk x.1.2.2.2 (.cells #[i6 0,.slice (some ⟨x.1.2.1,0,none⟩) c.Aa.xs.length c.Aa.xs.length,.slice (some ⟨x.1.2.2.1,0,none⟩) c.Aj.xs.length c.Aj.xs.length,i6 0] 58 (0,0)) true)]⟩)) (fun hK => ?_) ?_
 ·refine Jr [3,7,9] ?_
  refine List.forall_mem_cons.2 ⟨?_,List.forall_mem_cons.2 ⟨?_,List.forall_mem_cons.2 ⟨?_,fun _ h=>absurd h List.not_mem_nil⟩⟩⟩
  ·refine Ph z c.Aa.xs.length (⟨0,0,0,0,(⟨none,0,[]⟩:Sl Int)⟩:Ar) Ar.cells 65 5 56 (.agg #[i6 0,i6 0,i6 0,i6 0,.slice none 0 0]) (c.Aa.xs.length:Int) (c.Aa.xs.length:Int) (some 21) [0,1,2] rfl rfl (by omega) (show z≤n2 by omega) (.inr rfl) (fun n8 (hn9:n2+1≤n8) => ?_)
   refine CY [1,2,24,21] [(1,pt z),(BB z),(TZ c),(Yr c n2)] ?_
   refine Jr [7,9] ?_
   refine List.forall_mem_cons.2 ⟨?_,List.forall_mem_cons.2 ⟨?_,fun _ h=>absurd h List.not_mem_nil⟩⟩
   ·refine Ph z c.Aj.xs.length (⟨0,0,0,0,(⟨none,0,[]⟩:Sl BH)⟩:AA) AA.cells 95 5 56 (.agg #[i6 0,i6 0,i6 0,i6 0,.slice none 0 0]) (c.Aj.xs.length:Int) (c.Aj.xs.length:Int) (some 25) [0,1,2] rfl rfl (by omega) (show z≤n8 by omega) (.inr rfl) (fun n10 (hn11:n8+1≤n10) => ?_)
    refine CY [1,2,21,25] [(1,pt z),(BB z),(Yr c n2),(25,.slice (some ⟨n8,0,none⟩) c.Aj.xs.length c.Aj.xs.length)] ?_
    refine Ci [(8,o0)] [1,2,26] [] (Dw 9 2) [(1,pt z),(BB z),(qo29_33 c n2 n8)] Ae ?_
    refine Bq 9 ?_
    refine BC o0 [1,2,26,4] [] [(1,pt z),(BB z),(qo29_33 c n2 n8),(4,pt n10)] ⟨w,n10+1,[(Ak w),(Dk c z),(Dt z),(TU c n2 z),(qo29_24 c n8 z),(bk n10 #[i6 0,.slice none 0 0,.slice none 0 0,i6 0] 58)]⟩ [0,1,2] Ae (.inr rfl) ?_
    refine Bq 10 ?_
    refine BC (an 4 5) [1,2,4] [Qb n10,Qb n10,Qb n10,Qb n10] [(1,pt z),(BB z),(4,pt n10)] ⟨w,n10+1,(ZaK c n2 n8 n10 z w)⟩ [] ⟨rfl,rfl,rfl,rfl,Ae⟩ (.inl rfl) ?_
    refine DX 11 [0,1,2,3,4,5] (ZaK c n2 n8 n10 z w) rfl rfl ?_
    refine CE ?_
    refine BI [1,2,4] [(1,pt z),(BB z),(4,pt n10)] ?_
    refine Cc [0,1,2,3,4,5] (ZaK c n2 n8 n10 z w) rfl rfl ?_
    exact hK ⟨(n10+1,n2,n8,n10),by first | omega | (dsimp only;omega)⟩
   refine BC o0 [1,2,24,21,4] [] [(1,pt z),(BB z),(TZ c),(Yr c n2),(4,pt n8)] ⟨w,n8+1,[(Ak w),(Dk c z),(Dt z),(TU c n2 z),(bk n8 #[i6 0,.slice none 0 0,.slice none 0 0,i6 0] 58)]⟩ [0,1,2] Ae (.inr rfl) ?_
   refine Bq 7 ?_
   refine Ph z c.Aj.xs.length (⟨0,0,0,0,(⟨none,0,[]⟩:Sl BH)⟩:AA) AA.cells 95 5 56 (.agg #[i6 0,i6 0,i6 0,i6 0,.slice none 0 0]) (c.Aj.xs.length:Int) (c.Aj.xs.length:Int) (some 25) [0,1,2] rfl rfl (by omega) (show z≤n8+1 by omega) (.inr rfl) (fun n12 (hn13:n8+1+1≤n12) => ?_)
   refine CY [1,2,21,4,25] [(1,pt z),(BB z),(Yr c n2),(4,pt n8),(25,.slice (some ⟨n8+1,0,none⟩) c.Aj.xs.length c.Aj.xs.length)] ?_
   refine Ci [(8,o0)] [1,2,4,26] [] (Dw 10 1) [(1,pt z),(BB z),(4,pt n8),(26,.agg #[i6 0,.slice (some ⟨n2,0,none⟩) c.Aa.xs.length c.Aa.xs.length,.slice (some ⟨n8+1,0,none⟩) c.Aj.xs.length c.Aj.xs.length,i6 0])] Ae ?_
   refine Bq 10 ?_
   refine BC (an 4 4) [1,2,4] [Qb n8,Qb n8,Qb n8,Qb n8] [(1,pt z),(BB z),(4,pt n8)] ⟨w,n12,[(Ak w),(Dk c z),(Dt z),(TU c n2 z),(qo29_5 c n2 n8),(ZaW c n8 z)]⟩ [] ⟨rfl,rfl,rfl,rfl,Ae⟩ (.inl rfl) ?_
   refine DX 11 [0,1,2,3,4,5] [(Ak w),(Dk c z),(Dt z),(TU c n2 z),(qo29_5 c n2 n8),(ZaW c n8 z)] rfl rfl ?_
   refine CE ?_
   refine BI [1,2,4] [(1,pt z),(BB z),(4,pt n8)] ?_
   refine Cc [0,1,2,3,5,4] [(Ak w),(Dk c z),(Dt z),(TU c n2 z),(ZaW c n8 z),(qo29_5 c n2 n8)] rfl rfl ?_
   exact hK ⟨(n12,n2,n8+1,n8),by first | omega | (dsimp only;omega)⟩
  ·refine Ph z c.Aj.xs.length (⟨0,0,0,0,(⟨none,0,[]⟩:Sl BH)⟩:AA) AA.cells 95 5 56 (.agg #[i6 0,i6 0,i6 0,i6 0,.slice none 0 0]) (c.Aj.xs.length:Int) (c.Aj.xs.length:Int) (some 25) [0,1,2] rfl rfl (by omega) (show z≤n2 by omega) (.inr rfl) (fun n14 (hn15:n2+1≤n14) => ?_)
   refine CY [1,2,20,25] [(1,pt z),(BB z),(Ua c),(Y3 c n2)] ?_
   refine Jr [3,9] ?_
   refine List.forall_mem_cons.2 ⟨?_,List.forall_mem_cons.2 ⟨?_,fun _ h=>absurd h List.not_mem_nil⟩⟩
   ·refine Ph z c.Aa.xs.length (⟨0,0,0,0,(⟨none,0,[]⟩:Sl Int)⟩:Ar) Ar.cells 65 5 56 (.agg #[i6 0,i6 0,i6 0,i6 0,.slice none 0 0]) (c.Aa.xs.length:Int) (c.Aa.xs.length:Int) (some 21) [0,1,2] rfl rfl (by omega) (show z≤n14 by omega) (.inr rfl) (fun n16 (hn17:n14+1≤n16) => ?_)
    refine CY [1,2,25,21] [(1,pt z),(BB z),(Y3 c n2),(21,.slice (some ⟨n14,0,none⟩) c.Aa.xs.length c.Aa.xs.length)] ?_
    refine Ci [(8,o0)] [1,2,26] [] (Dw 9 2) [(1,pt z),(BB z),(qo29_32 c n14 n2)] Ae ?_
    refine Bq 9 ?_
    refine BC o0 [1,2,26,4] [] [(1,pt z),(BB z),(qo29_32 c n14 n2),(4,pt n16)] ⟨w,n16+1,[(Ak w),(Dk c z),(Dt z),(QU c n2 z),(Yb c n14 z),(bk n16 #[i6 0,.slice none 0 0,.slice none 0 0,i6 0] 58)]⟩ [0,1,2] Ae (.inr rfl) ?_
    refine Bq 10 ?_
    refine BC (an 4 5) [1,2,4] [Qb n16,Qb n16,Qb n16,Qb n16] [(1,pt z),(BB z),(4,pt n16)] ⟨w,n16+1,[(Ak w),(Dk c z),(Dt z),(QU c n2 z),(Yb c n14 z),(qo29_6 c n14 n2 n16)]⟩ [] ⟨rfl,rfl,rfl,rfl,Ae⟩ (.inl rfl) ?_
    refine DX 11 [0,1,2,3,4,5] [(Ak w),(Dk c z),(Dt z),(QU c n2 z),(Yb c n14 z),(qo29_6 c n14 n2 n16)] rfl rfl ?_
    refine CE ?_
    refine BI [1,2,4] [(1,pt z),(BB z),(4,pt n16)] ?_
    refine Cc [0,1,2,4,3,5] [(Ak w),(Dk c z),(Dt z),(Yb c n14 z),(QU c n2 z),(qo29_6 c n14 n2 n16)] rfl rfl ?_
    exact hK ⟨(n16+1,n14,n2,n16),by first | omega | (dsimp only;omega)⟩
   refine BC o0 [1,2,20,25,4] [] [(1,pt z),(BB z),(Ua c),(Y3 c n2),(4,pt n14)] ⟨w,n14+1,[(Ak w),(Dk c z),(Dt z),(QU c n2 z),(bk n14 #[i6 0,.slice none 0 0,.slice none 0 0,i6 0] 58)]⟩ [0,1,2] Ae (.inr rfl) ?_
   refine Bq 3 ?_
   refine Ph z c.Aa.xs.length (⟨0,0,0,0,(⟨none,0,[]⟩:Sl Int)⟩:Ar) Ar.cells 65 5 56 (.agg #[i6 0,i6 0,i6 0,i6 0,.slice none 0 0]) (c.Aa.xs.length:Int) (c.Aa.xs.length:Int) (some 21) [0,1,2] rfl rfl (by omega) (show z≤n14+1 by omega) (.inr rfl) (fun n18 (hn19:n14+1+1≤n18) => ?_)
   refine CY [1,2,25,4,21] [(1,pt z),(BB z),(Y3 c n2),(4,pt n14),(21,.slice (some ⟨n14+1,0,none⟩) c.Aa.xs.length c.Aa.xs.length)] ?_
   refine Ci [(8,o0)] [1,2,4,26] [] (Dw 10 1) [(1,pt z),(BB z),(4,pt n14),(26,.agg #[i6 0,.slice (some ⟨n14+1,0,none⟩) c.Aa.xs.length c.Aa.xs.length,.slice (some ⟨n2,0,none⟩) c.Aj.xs.length c.Aj.xs.length,i6 0])] Ae ?_
   refine Bq 10 ?_
   refine BC (an 4 4) [1,2,4] [Qb n14,Qb n14,Qb n14,Qb n14] [(1,pt z),(BB z),(4,pt n14)] ⟨w,n18,[(Ak w),(Dk c z),(Dt z),(QU c n2 z),(qo29_1 c n14 n2),(ZaT c n14 z)]⟩ [] ⟨rfl,rfl,rfl,rfl,Ae⟩ (.inl rfl) ?_
   refine DX 11 [0,1,2,3,4,5] [(Ak w),(Dk c z),(Dt z),(QU c n2 z),(qo29_1 c n14 n2),(ZaT c n14 z)] rfl rfl ?_
   refine CE ?_
   refine BI [1,2,4] [(1,pt z),(BB z),(4,pt n14)] ?_
   refine Cc [0,1,2,5,3,4] [(Ak w),(Dk c z),(Dt z),(ZaT c n14 z),(QU c n2 z),(qo29_1 c n14 n2)] rfl rfl ?_
   exact hK ⟨(n18,n14+1,n2,n14),by first | omega | (dsimp only;omega)⟩
  refine BC o0 [1,2,20,24,4] [] [(1,pt z),(BB z),(Ua c),(TZ c),(Ou n2)] ⟨w,n2+1,[(Ak w),(Dk c z),(Dt z),(bk n2 #[i6 0,.slice none 0 0,.slice none 0 0,i6 0] 58)]⟩ [0,1,2] Ae (.inr rfl) ?_
  refine Jr [3,7] ?_
  refine List.forall_mem_cons.2 ⟨?_,List.forall_mem_cons.2 ⟨?_,fun _ h=>absurd h List.not_mem_nil⟩⟩
  ·refine Ph z c.Aa.xs.length (⟨0,0,0,0,(⟨none,0,[]⟩:Sl Int)⟩:Ar) Ar.cells 65 5 56 (.agg #[i6 0,i6 0,i6 0,i6 0,.slice none 0 0]) (c.Aa.xs.length:Int) (c.Aa.xs.length:Int) (some 21) [0,1,2] rfl rfl (by omega) (show z≤n2+1 by omega) (.inr rfl) (fun n20 (hn21:n2+1+1≤n20) => ?_)
   refine CY [1,2,24,4,21] [(1,pt z),(BB z),(TZ c),(Ou n2),(21,.slice (some ⟨n2+1,0,none⟩) c.Aa.xs.length c.Aa.xs.length)] ?_
   refine Bq 7 ?_
   refine Ph z c.Aj.xs.length (⟨0,0,0,0,(⟨none,0,[]⟩:Sl BH)⟩:AA) AA.cells 95 5 56 (.agg #[i6 0,i6 0,i6 0,i6 0,.slice none 0 0]) (c.Aj.xs.length:Int) (c.Aj.xs.length:Int) (some 25) [0,1,2] rfl rfl (by omega) (show z≤n20 by omega) (.inr rfl) (fun n22 (hn23:n20+1≤n22) => ?_)
   refine CY [1,2,4,21,25] [(1,pt z),(BB z),(Ou n2),(21,.slice (some ⟨n2+1,0,none⟩) c.Aa.xs.length c.Aa.xs.length),(25,.slice (some ⟨n20,0,none⟩) c.Aj.xs.length c.Aj.xs.length)] ?_
   refine Ci [(8,o0)] [1,2,4,26] [] (Dw 10 1) [(1,pt z),(BB z),(Ou n2),(26,.agg #[i6 0,.slice (some ⟨n2+1,0,none⟩) c.Aa.xs.length c.Aa.xs.length,.slice (some ⟨n20,0,none⟩) c.Aj.xs.length c.Aj.xs.length,i6 0])] Ae ?_
   refine Bq 10 ?_
   refine BC (an 4 3) [1,2,4] [Qb n2,Qb n2,Qb n2,Qb n2] [(1,pt z),(BB z),(Ou n2)] ⟨w,n22,[(Ak w),(Dk c z),(Dt z),(qo29_2 c n2 n20),(ZaM c n2 z),(ZaE c n20 z)]⟩ [] ⟨rfl,rfl,rfl,rfl,Ae⟩ (.inl rfl) ?_
   refine DX 11 [0,1,2,3,4,5] [(Ak w),(Dk c z),(Dt z),(qo29_2 c n2 n20),(ZaM c n2 z),(ZaE c n20 z)] rfl rfl ?_
   refine CE ?_
   refine BI [1,2,4] [(1,pt z),(BB z),(Ou n2)] ?_
   refine Cc [0,1,2,4,5,3] [(Ak w),(Dk c z),(Dt z),(ZaM c n2 z),(ZaE c n20 z),(qo29_2 c n2 n20)] rfl rfl ?_
   exact hK ⟨(n22,n2+1,n20,n2),by first | omega | (dsimp only;omega)⟩
  refine Ph z c.Aj.xs.length (⟨0,0,0,0,(⟨none,0,[]⟩:Sl BH)⟩:AA) AA.cells 95 5 56 (.agg #[i6 0,i6 0,i6 0,i6 0,.slice none 0 0]) (c.Aj.xs.length:Int) (c.Aj.xs.length:Int) (some 25) [0,1,2] rfl rfl (by omega) (show z≤n2+1 by omega) (.inr rfl) (fun n24 (hn25:n2+1+1≤n24) => ?_)
  refine CY [1,2,20,4,25] [(1,pt z),(BB z),(Ua c),(Ou n2),(25,.slice (some ⟨n2+1,0,none⟩) c.Aj.xs.length c.Aj.xs.length)] ?_
  refine Bq 3 ?_
  refine Ph z c.Aa.xs.length (⟨0,0,0,0,(⟨none,0,[]⟩:Sl Int)⟩:Ar) Ar.cells 65 5 56 (.agg #[i6 0,i6 0,i6 0,i6 0,.slice none 0 0]) (c.Aa.xs.length:Int) (c.Aa.xs.length:Int) (some 21) [0,1,2] rfl rfl (by omega) (show z≤n24 by omega) (.inr rfl) (fun n26 (hn27:n24+1≤n26) => ?_)
  refine CY [1,2,4,25,21] [(1,pt z),(BB z),(Ou n2),(25,.slice (some ⟨n2+1,0,none⟩) c.Aj.xs.length c.Aj.xs.length),(21,.slice (some ⟨n24,0,none⟩) c.Aa.xs.length c.Aa.xs.length)] ?_
  refine Ci [(8,o0)] [1,2,4,26] [] (Dw 10 1) [(1,pt z),(BB z),(Ou n2),(26,.agg #[i6 0,.slice (some ⟨n24,0,none⟩) c.Aa.xs.length c.Aa.xs.length,.slice (some ⟨n2+1,0,none⟩) c.Aj.xs.length c.Aj.xs.length,i6 0])] Ae ?_
  refine Bq 10 ?_
  refine BC (an 4 3) [1,2,4] [Qb n2,Qb n2,Qb n2,Qb n2] [(1,pt z),(BB z),(Ou n2)] ⟨w,n26,[(Ak w),(Dk c z),(Dt z),(qo29_3 c n2 n24),(ZaB c n2 z),(Zai c n24 z)]⟩ [] ⟨rfl,rfl,rfl,rfl,Ae⟩ (.inl rfl) ?_
  refine DX 11 [0,1,2,3,4,5] [(Ak w),(Dk c z),(Dt z),(qo29_3 c n2 n24),(ZaB c n2 z),(Zai c n24 z)] rfl rfl ?_
  refine CE ?_
  refine BI [1,2,4] [(1,pt z),(BB z),(Ou n2)] ?_
  refine Cc [0,1,2,5,4,3] [(Ak w),(Dk c z),(Dt z),(Zai c n24 z),(ZaB c n2 z),(qo29_3 c n2 n24)] rfl rfl ?_
  exact hK ⟨(n26,n24,n2+1,n2),by first | omega | (dsimp only;omega)⟩
 rintro⟨⟨n4,b5,b6,b7⟩,hJ28⟩
 simp only at hJ28
 show E _ _ [(1,pt z),(BB z),(CO b7)] _ ⟨w,n4,[(Ak w),(Dk c z),(Dt z),(Ih c b5 z),(BV z 95 5 AA.cells (.slice (some ⟨b6,0,none⟩) c.Aj.xs.length c.Aj.xs.length) (List.replicate c.Aj.xs.length (⟨0,0,0,0,(⟨none,0,[]⟩:Sl BH)⟩:AA))),(Jc b7 c b5 b6)]⟩ _ _ _
 refine NU 7 0 [] [[o0,(a1 1),o0,o0]] [Qb z] [(1,pt z),(BB z),(CO b7),(GK c),(30,i6 0)] rfl ⟨rfl,Ae⟩ ?_
 refine D8 (fun m a w'=>∃ (n30:Nat) (k:Nat),m=c.Aj.xs.length - k∧n4≤n30∧(k≤c.Aj.xs.length)∧St 190 [(1,pt z),(BB z),(CO b7),(GK c),(30,Ac k)] [] ⟨w,n30,(Ik b7 c b5 b6 z w k)⟩ a w') (c.Aj.xs.length - 0) ?_ ?_
 ·intro a w' hs;exact⟨n4,0,rfl,Nat.le_refl _,Nat.zero_le _,by(try dsimp only[Jc,Dt,Dk,Ih,Ua,TZ,GK,BB,CO,Ik]at hs ⊢);rw[csUp_zero];exact hs⟩
 rintro m a w' ⟨n30,k,rfl,hn29,hkk,hs⟩
 refine(?_:G Tryd.prog 190 [(1,pt z),(BB z),(CO b7),(GK c),(30,Ac k)] [] ⟨w,n30,(Ik b7 c b5 b6 z w k)⟩ _ _ _) a w' hs
 clear hs a w'
 have hul:=csUp_len (c:=c) (k:=k)
 refine CW ?_
 by_cases h31:(k:Int)<(c.Aj.xs.length:Int)
 ·refine Au 15 2 [1] [[oT],[o0,o0],[(an 7 1),o0]] [BT ((k:Int)<(c.Aj.xs.length:Int)),Qb z,Qb z,Qb z,Qb z,Qb z,Qb z,Qb z] [(1,pt z),(BB z),(CO b7),(GK c),(30,Ac k),(5,Ac k),(34,.agg (Ai.arr c)),(35,Ac k)] rfl ⟨bt,rfl,rfl,rfl,rfl,rfl,rfl,rfl,Ae⟩ ?_
  refine Ba 26 #[.agg (Ai.arr c),Ac k] (some 36) (.tuple #[i6 ((gd (CB c (k:Int) true) 0).partition),i6 ((gd (CB c (k:Int) true) 0).port)]) (fun w32 hw32=>source_calls w32 c (k:Int) (hc.ext (hw32.ext rfl) (fun _ h=>h))) (fun n33 (hn34:n30≤n33) => ?_)
  refine AZ 4 6 [] [[o0,o0,o0,o0,o0],[o0,(a1 5),o0,o0,(oi k),o0]] [Qb b7,Dc k,k<c.Aj.xs.length,BM] [(1,pt z),(BB z),(CO b7),(GK c),(30,Ac k),(5,Ac k),(7,i6 ((gd (CB c (k:Int) true) 0).port)),(42,i6 ((gd (CB c (k:Int) true) 0).partition)),(44,.pointer (some ⟨b6,0+Ee 5 k+2,none⟩))] rfl ⟨rfl,rfl,(by omega),rfl,Ae⟩ ?_
  refine G5 4 k 2 (P7 c k) (⟨0,0,(gd (CB c (k:Int) true) 0).partition,0,(⟨none,0,[]⟩:Sl BH)⟩:AA) AA.cells z 95 5 b6 c.Aj.xs.length c.Aj.xs.length (i6 ((gd (CB c (k:Int) true) 0).partition)) none (by first | omega | (rw[List.length_set];omega)) (by rw[csUp_at (by omega)];rfl) ?_
  refine AZ 3 6 [] [[],[o0,(a1 5),o0,o0,(oi k),o0]] [Qb b7,Dc k,k<c.Aj.xs.length,BM] [(1,pt z),(BB z),(CO b7),(GK c),(30,Ac k),(48,i6 ((gd (CB c (k:Int) true) 0).port)),(50,.pointer (some ⟨b6,0+Ee 5 k+3,none⟩))] rfl ⟨rfl,rfl,(by omega),rfl,Ae⟩ ?_
  refine G5 4 k 3 ((P7 c k).set k (⟨0,0,(gd (CB c (k:Int) true) 0).partition,0,(⟨none,0,[]⟩:Sl BH)⟩:AA)) (⟨0,0,(gd (CB c (k:Int) true) 0).partition,(gd (CB c (k:Int) true) 0).port,(⟨none,0,[]⟩:Sl BH)⟩:AA) AA.cells z 95 5 b6 c.Aj.xs.length c.Aj.xs.length (i6 ((gd (CB c (k:Int) true) 0).port)) none (by first | omega | (rw[List.length_set];omega)) (by rw[MG (by first | omega | (rw[List.length_set];omega))];rfl) ?_
  refine AZ 5 0 [] [[],[(ov (i6 ((k+1:Nat):Int))),o0]] [Wr ((k:Int)+1) (((k+1:Nat):Int))] [(1,pt z),(BB z),(CO b7),(GK c),(30,i6 ((k+1:Nat):Int))] rfl ⟨BP,Ae⟩ ?_
  refine BR (fun a w' hs=>⟨c.Aj.xs.length - (k+1),by omega,n33,(k+1),rfl,by omega,by omega,by(try dsimp only[Jc,Dt,Dk,Ih,GK,BB,CO,Ik]at hs ⊢);rw[←csUp_succ];simp only[List.set_set]at hs;exact hs⟩)
 refine Au 16 1 [0] [[oF],[o0],[(an 7 1)]] [BF ((k:Int)<(c.Aj.xs.length:Int)),Qb z,Qb z,Qb z,Qb z,Qb z,Qb z,Qb z] [(1,pt z),(BB z),(CO b7),(8,i6 0),(52,.agg (Ai.arr c))] rfl ⟨bf,rfl,rfl,rfl,rfl,rfl,rfl,rfl,Ae⟩ ?_
 refine l_call [] [] 27 #[.agg (Ai.arr c)] (some 53) Ae ?_
 intro w35 hw35
 refine(rpieces_calls w35 c (hc.ext (hw35.ext rfl) (fun _ h=>h)) hok).mono ?_
 rintro e w36 ⟨ax37,cp38,rfl,hSw36,hkw36⟩
 have hnw36:n30≤w36.heap.size:=Ef hw35 hkw36
 rw[hw35.size]at hSw36
 refine⟨_,_,rfl,hw35.U1 hkw36, ?_⟩
 refine AZ 12 0 [] [[o0],[o0,(a1 1),(ov (i6 (16*c.Kernel))),o0],[o0,o0,o0]] [Qb z,Wr ((16:Int)*c.Kernel) (16*c.Kernel)] [(BB z),(CO b7),(8,i6 0),(Gf c cp38 ax37),(10,i6 (16*c.Kernel)),(Dq c),(59,i6 0)] rfl ⟨rfl,BP,Ae⟩ ?_
 have hkc:k=c.Aj.xs.length:=by omega
 refine g_famNil z 103 3 BH.cells c.Aj.xs.length ?_
 refine g_famNil z 3 1 (fun x:Int=>[i6 x]) c.Aa.xs.length ?_
 refine D8 (fun m a w'=>∃ (n40:Nat) (mm:Nat) (psG:List Ar) (csG:List AA),m=(Dj c).length - mm∧w36.heap.size≤n40∧(mm≤(Dj c).length)∧(psG.length=c.Aa.xs.length)∧(csG.length=c.Aj.xs.length)∧(psG.map nP=(BX c mm).ps)∧(csG.map nC=(BX c mm).cs)∧St 190 [(BB z),(CO b7),(8,i6 ((BX c mm).ch)),(Gf c cp38 ax37),(10,i6 ((BX c mm).fin)),(Dq c),(59,Ac mm)] [] ⟨w,n40,[(Ak w),(Dk c z),(Dt z),(ES c b5 z psG),(EU c b6 z csG),(F8 b7 c mm b5 b6),(mid n30 w36),(Fe z csG),(Fb z psG)]⟩ a w') ((Dj c).length - 0) ?_ ?_
 ·intro a w' hs;exact⟨w36.heap.size,0,(List.replicate c.Aa.xs.length (⟨0,0,0,0,(⟨none,0,[]⟩:Sl Int)⟩:Ar)),(P7 c k),rfl,Nat.le_refl _,Nat.zero_le _,List.length_replicate,csUp_len,(by rw[List.map_replicate];apply List.ext_getElem (by simp[BX,F0]);intro i h1 h2;simp[BX,F0,nP]),(by rw[hkc,csUp_all];show List.map nC ((List.range _).map (TL c))=(List.range _).map (TL c);rw[List.map_map];rfl),by(try dsimp only[F8,Jc,Dt,Dk,Ih,ES,EU,Fb,Fe,GK,Dq,Gf,BB,CO,Ik]at hs ⊢);rw[csUp_nil,List.map_replicate];exact hs⟩
 rintro m a w' ⟨n40,mm,psG,csG,rfl,hn39,hkmm,hlp,hlc,hps,hcs,hs⟩
 refine(?_:G Tryd.prog 190 [(BB z),(CO b7),(8,i6 ((BX c mm).ch)),(Gf c cp38 ax37),(10,i6 ((BX c mm).fin)),(Dq c),(59,Ac mm)] [] ⟨w,n40,[(Ak w),(Dk c z),(Dt z),(ES c b5 z psG),(EU c b6 z csG),(F8 b7 c mm b5 b6),(mid n30 w36),(Fe z csG),(Fb z psG)]⟩ _ _ _) a w' hs
 clear hs a w'
 have hpln:=pieces_len hfine
 have hch:=foldUp_ch hfine mm (by omega)
 have hfin:mm<(Dj c).length∨((BX c mm).fin+16 - 1) / 16=Ec c c.Aa.xs.length:=if e:mm<(Dj c).length then .inl e else .inr (by rw[show mm=(Dj c).length by omega];exact(ZP hfine).2.2.2)
 have htb:=RF hfine c.Aa.xs.length (Nat.le_refl _)
 have htp:=Za8 hfine c.Aa.xs.length
 refine CW ?_
 by_cases h41:(mm:Int)<(((Dj c).length:Nat):Int)
 ·refine Au 14 0 [1] [[oT],[o0,o0]] [BT ((mm:Int)<(((Dj c).length:Nat):Int))] [(BB z),(CO b7),(8,i6 ((BX c mm).ch)),(Gf c cp38 ax37),(Dq c),(59,Ac mm),(11,Ac mm)] rfl ⟨bt,Ae⟩ ?_
  obtain⟨b42,o43,ha44,hF46,hc45⟩:=((⟨hSw36,pc_ink hfine⟩:Nh BJ.cells 5 BJ.ok _ _ _)).1.all (show 0<(Dj c).length by omega)
  replace ha44:ax37=some ⟨b42,o43,none⟩:=ha44
  refine Lj [(BB z),(CO b7),(8,i6 ((BX c mm).ch)),(DT c b42 o43 cp38),(Dq c),(59,Ac mm),(11,Ac mm)] (by(try dsimp only[F8,Jc,Dt,Dk,Ih,ES,EU,Fb,Fe,DT,GK,Dq,Gf,BB,CO,Ik]);simp only[ha44]) ?_
  have hc47:=hc45 mm (show mm<(Dj c).length by omega)
  have he48:=((⟨hSw36,pc_ink hfine⟩:Nh BJ.cells 5 BJ.ok _ _ _)).2 mm (show mm<(Dj c).length by omega)
  obtain⟨y49,hy49⟩:∃ y_,y_=gd (⟨ax37,cp38,Dj c⟩:Sl BJ).xs mm:=⟨_,rfl⟩
  rw[←hy49]at he48 hc47
  have hPc:=pc_in hfine (show mm<(Dj c).length by omega);rw[←hy49]at hPc;unfold WY at hPc
  refine q_c 17 0 [] [[o0,o0,(oi mm),(oa [.via 6 (i6 y49.At),.via 6 (i6 y49.Size),.via 6 (i6 y49.AC.Kind),.via 6 (i6 y49.AC.Index),.via 6 (i6 y49.AC.Port)]),o0,(an 5 9)],[o0,(a1 9),o0,(a1 9),(ov (i6 (y49.At+y49.Size))),o0],[o0,o0,(a1 9),o0],[o0,o0,(a1 9)]] [Dc mm,mm<(Dj c).length,BM,∀ w',Ch.holds (mid n30 w36) w'→w'.cell? ⟨b42,o43+mm*5,none⟩=some (i6 y49.At),∀ w',Ch.holds (mid n30 w36) w'→w'.cell? ⟨b42,o43+mm*5+1,none⟩=some (i6 y49.Size),∀ w',Ch.holds (mid n30 w36) w'→w'.cell? ⟨b42,o43+mm*5+2,none⟩=some (i6 y49.AC.Kind),∀ w',Ch.holds (mid n30 w36) w'→w'.cell? ⟨b42,o43+mm*5+3,none⟩=some (i6 y49.AC.Index),∀ w',Ch.holds (mid n30 w36) w'→w'.cell? ⟨b42,o43+mm*5+4,none⟩=some (i6 y49.AC.Port),Qb n40,Qb n40,Qb n40,Qb n40,Qb n40,Qb n40,Qb n40,Wr ((y49.At:Int)+y49.Size) (y49.At+y49.Size),Qb n40,Qb n40] [(BB z),(CO b7),(8,i6 ((BX c mm).ch)),(DT c b42 o43 cp38),(Dq c),(59,Ac mm),(HY n40),(D9 y49),(13,i6 y49.AC.Index),(76,i6 y49.AC.Kind)] ⟨w,n40+1,[(Ak w),(Dk c z),(Dt z),(ES c b5 z psG),(EU c b6 z csG),(F8 b7 c mm b5 b6),(mid n30 w36),(Fe z csG),(Fb z psG),(J6 y49 n40)]⟩ rfl ⟨rfl,(by omega),rfl,KI hF46 (hc47 0 _ rfl),KI hF46 (hc47 1 _ rfl),KI hF46 (hc47 2 _ rfl),KI hF46 (hc47 3 _ rfl),KI hF46 (hc47 4 _ rfl),rfl,rfl,rfl,rfl,rfl,rfl,rfl,BP,rfl,rfl,Ae⟩ ?_
  by_cases h50:(y49.AC.Kind:Int)=2
  ·refine q_c 11 0 [1] [[oT,o0],[o0,(a1 9),o0,(a1 5)],[(ov (i6 ((mm+1:Nat):Int))),o0]] [ET y49.AC.Kind 2,Qb n40,Qb b7,Wr ((mm:Int)+1) (((mm+1:Nat):Int))] [(BB z),(CO b7),(8,i6 ((BX c mm).ch)),(DT c b42 o43 cp38),(Dq c),(Fj mm),(D9 y49)] ⟨w,n40+1,[(Ak w),(Dk c z),(Dt z),(ES c b5 z psG),(EU c b6 z csG),(V9 b7 c b5 b6 y49),(mid n30 w36),(Fe z csG),(Fb z psG),(J6 y49 n40)]⟩ rfl ⟨et,rfl,rfl,BP,Ae⟩ ?_
   refine Cc [0,1,2,3,4,5,6,7,8] [(Ak w),(Dk c z),(Dt z),(ES c b5 z psG),(EU c b6 z csG),(V9 b7 c b5 b6 y49),(mid n30 w36),(Fe z csG),(Fb z psG)] rfl rfl ?_
   have hT:=JU (c:=c) (m:=mm) (by omega)
   rw[←hy49,st2 _ _ (by omega)]at hT
   refine GH [2,4,8,9,10,58,59] [(BB z),(CO b7),(8,i6 ((BX c mm).ch)),(Gf c cp38 ax37),(D9 y49),(Dq c),(Fj mm)] (by(try dsimp only[F8,V9,Jc,Dt,J6,Dk,Ih,ES,EU,Fb,Fe,DT,GK,Dq,Gf,Fj,BB,HY,D9,CO,Ik]);simp only[ha44];rfl) ?_
   refine BR (fun a w' hs=>⟨(Dj c).length - (mm+1),by omega,(n40+1),(mm+1),psG,csG,rfl,by omega,by omega,hlp,hlc,by rw[hT];exact hps,by rw[hT];exact hcs,by(try dsimp only[F8,V9,Jc,Dt,J6,Dk,Ih,ES,EU,Fb,Fe,DT,GK,Dq,Gf,Fj,BB,HY,D9,CO,Ik]at hs ⊢);rw[hT];exact hs⟩)
  refine Au 5 0 [0] [[oF,o0]] [EF y49.AC.Kind 2] [(BB z),(CO b7),(8,i6 ((BX c mm).ch)),(DT c b42 o43 cp38),(Dq c),(59,Ac mm),(HY n40),(D9 y49),(13,i6 y49.AC.Index),(76,i6 y49.AC.Kind),(77,.bool false)] rfl ⟨ef,Ae⟩ ?_
  by_cases h51:(y49.AC.Kind:Int)=3
  ·refine Au 5 7 [1] [[oT,o0],[o0,(a1 5),o0,o0,(a1 9),(oi ((y49.AC.Index).toNat)),o0]] [ET y49.AC.Kind 3,Qb b7,Qb n40,(y49.AC.Index:Int)=(((y49.AC.Index).toNat:Nat):Int),(y49.AC.Index).toNat<c.Aa.xs.length,BM] [(BB z),(CO b7),(8,i6 ((BX c mm).ch)),(DT c b42 o43 cp38),(Dq c),(59,Ac mm),(D9 y49),(88,i6 y49.At),(90,.pointer (some ⟨b5,0+Ee 5 ((y49.AC.Index).toNat),none⟩))] rfl ⟨et,rfl,rfl,(by omega),(by omega),rfl,Ae⟩ ?_
   obtain⟨y52,hy52⟩:∃ y,y=gd psG ((y49.AC.Index).toNat):=⟨_,rfl⟩
   refine G5 3 ((y49.AC.Index).toNat) 0 psG (⟨y49.At,y52.Ju,y52.State,y52.Root,(⟨y52.Tables.a,y52.Tables.cap,y52.Tables.xs⟩:Sl Int)⟩:Ar) Ar.cells z 65 5 b5 c.Aa.xs.length c.Aa.xs.length (i6 y49.At) none (by first | omega | (rw[List.length_set];omega)) (by rw[←hy52];rfl) ?_
   refine AZ 6 0 [] [[],[(ov (i6 ((mm+1:Nat):Int))),o0]] [Wr ((mm:Int)+1) (((mm+1:Nat):Int))] [(BB z),(CO b7),(8,i6 ((BX c mm).ch)),(DT c b42 o43 cp38),(Dq c),(Fj mm),(D9 y49)] rfl ⟨BP,Ae⟩ ?_
   refine Cc [0,1,2,3,4,5,6,7,8] [(Ak w),(Dk c z),(Dt z),(BV z 65 5 Ar.cells (.slice (some ⟨b5,0,none⟩) c.Aa.xs.length c.Aa.xs.length) (psG.set ((y49.AC.Index).toNat) (⟨y49.At,y52.Ju,y52.State,y52.Root,(⟨y52.Tables.a,y52.Tables.cap,y52.Tables.xs⟩:Sl Int)⟩:Ar))),(EU c b6 z csG),(F8 b7 c mm b5 b6),(mid n30 w36),(Fe z csG),(Fb z psG)] rfl rfl ?_
   have hT:=JU (c:=c) (m:=mm) (by omega)
   rw[←hy49,st3 _ _ (by omega)]at hT
   refine GH [2,4,8,9,10,58,59] [(BB z),(CO b7),(8,i6 ((BX c mm).ch)),(Gf c cp38 ax37),(D9 y49),(Dq c),(Fj mm)] (by(try dsimp only[F8,V9,Jc,Dt,J6,Dk,Ih,ES,EU,Fb,Fe,DT,GK,Dq,Gf,Fj,BB,HY,D9,CO,Ik]);simp only[ha44];rfl) ?_
   refine BR (fun a w' hs=>⟨(Dj c).length - (mm+1),by omega,(n40+1),(mm+1),(psG.set ((y49.AC.Index).toNat) (⟨y49.At,y52.Ju,y52.State,y52.Root,(⟨y52.Tables.a,y52.Tables.cap,y52.Tables.xs⟩:Sl Int)⟩:Ar)),csG,rfl,by omega,by omega,by rw[List.length_set];exact hlp,hlc,by rw[hT];show _=List.set _ _ _;rw[List.map_set,←hps,Np (by omega),←hy52];rfl,by rw[hT];exact hcs,by(try dsimp only[F8,V9,Jc,Dt,Dk,Ih,ES,EU,Fb,Fe,DT,GK,Dq,Gf,Fj,BB,HY,D9,CO,Ik]at hs ⊢);rw[hT,Si (f:=Ar.Tables) (by omega) (by rw[←hy52])];exact hs⟩)
  refine Au 5 0 [0] [[oF,o0]] [EF y49.AC.Kind 3] [(BB z),(CO b7),(8,i6 ((BX c mm).ch)),(DT c b42 o43 cp38),(Dq c),(59,Ac mm),(HY n40),(D9 y49),(13,i6 y49.AC.Index),(76,i6 y49.AC.Kind),(82,.bool false)] rfl ⟨ef,Ae⟩ ?_
  by_cases h53:(y49.AC.Kind:Int)=4
  ·refine Au 5 7 [1] [[oT,o0],[o0,(a1 5),o0,o0,(a1 9),(oi ((y49.AC.Index).toNat)),o0]] [ET y49.AC.Kind 4,Qb b7,Qb n40,(y49.AC.Index:Int)=(((y49.AC.Index).toNat:Nat):Int),(y49.AC.Index).toNat<c.Aa.xs.length,BM] [(BB z),(CO b7),(8,i6 ((BX c mm).ch)),(DT c b42 o43 cp38),(Dq c),(59,Ac mm),(D9 y49),(97,i6 y49.At),(99,.pointer (some ⟨b5,0+Ee 5 ((y49.AC.Index).toNat)+1,none⟩))] rfl ⟨et,rfl,rfl,(by omega),(by omega),rfl,Ae⟩ ?_
   obtain⟨y54,hy54⟩:∃ y,y=gd psG ((y49.AC.Index).toNat):=⟨_,rfl⟩
   refine G5 3 ((y49.AC.Index).toNat) 1 psG (⟨y54.Lock,y49.At,y54.State,y54.Root,(⟨y54.Tables.a,y54.Tables.cap,y54.Tables.xs⟩:Sl Int)⟩:Ar) Ar.cells z 65 5 b5 c.Aa.xs.length c.Aa.xs.length (i6 y49.At) none (by first | omega | (rw[List.length_set];omega)) (by rw[←hy54];rfl) ?_
   refine AZ 6 0 [] [[],[(ov (i6 ((mm+1:Nat):Int))),o0]] [Wr ((mm:Int)+1) (((mm+1:Nat):Int))] [(BB z),(CO b7),(8,i6 ((BX c mm).ch)),(DT c b42 o43 cp38),(Dq c),(Fj mm),(D9 y49)] rfl ⟨BP,Ae⟩ ?_
   refine Cc [0,1,2,3,4,5,6,7,8] [(Ak w),(Dk c z),(Dt z),(BV z 65 5 Ar.cells (.slice (some ⟨b5,0,none⟩) c.Aa.xs.length c.Aa.xs.length) (psG.set ((y49.AC.Index).toNat) (⟨y54.Lock,y49.At,y54.State,y54.Root,(⟨y54.Tables.a,y54.Tables.cap,y54.Tables.xs⟩:Sl Int)⟩:Ar))),(EU c b6 z csG),(F8 b7 c mm b5 b6),(mid n30 w36),(Fe z csG),(Fb z psG)] rfl rfl ?_
   have hT:=JU (c:=c) (m:=mm) (by omega)
   rw[←hy49,st4 _ _ (by omega)]at hT
   refine GH [2,4,8,9,10,58,59] [(BB z),(CO b7),(8,i6 ((BX c mm).ch)),(Gf c cp38 ax37),(D9 y49),(Dq c),(Fj mm)] (by(try dsimp only[F8,Jc,Dt,Dk,Ih,ES,EU,Fb,Fe,DT,GK,Dq,Gf,Fj,BB,HY,D9,CO,Ik]);simp only[ha44];rfl) ?_
   refine BR (fun a w' hs=>⟨(Dj c).length - (mm+1),by omega,(n40+1),(mm+1),(psG.set ((y49.AC.Index).toNat) (⟨y54.Lock,y49.At,y54.State,y54.Root,(⟨y54.Tables.a,y54.Tables.cap,y54.Tables.xs⟩:Sl Int)⟩:Ar)),csG,rfl,by omega,by omega,by rw[List.length_set];exact hlp,hlc,by rw[hT];show _=List.set _ _ _;rw[List.map_set,←hps,Np (by omega),←hy54];rfl,by rw[hT];exact hcs,by(try dsimp only[F8,Jc,Dt,Dk,Ih,ES,EU,Fb,Fe,DT,GK,Dq,Gf,Fj,BB,HY,D9,CO,Ik]at hs ⊢);rw[hT,Si (f:=Ar.Tables) (by omega) (by rw[←hy54])];exact hs⟩)
  refine Au 5 0 [0] [[oF,o0]] [EF y49.AC.Kind 4] [(BB z),(CO b7),(8,i6 ((BX c mm).ch)),(DT c b42 o43 cp38),(Dq c),(59,Ac mm),(HY n40),(D9 y49),(13,i6 y49.AC.Index),(76,i6 y49.AC.Kind),(91,.bool false)] rfl ⟨ef,Ae⟩ ?_
  by_cases h55:(y49.AC.Kind:Int)=5
  ·refine Au 5 7 [1] [[oT,o0],[o0,(a1 5),o0,o0,(a1 9),(oi ((y49.AC.Index).toNat)),o0]] [ET y49.AC.Kind 5,Qb b7,Qb n40,(y49.AC.Index:Int)=(((y49.AC.Index).toNat:Nat):Int),(y49.AC.Index).toNat<c.Aa.xs.length,BM] [(BB z),(CO b7),(8,i6 ((BX c mm).ch)),(DT c b42 o43 cp38),(Dq c),(59,Ac mm),(D9 y49),(106,i6 y49.At),(108,.pointer (some ⟨b5,0+Ee 5 ((y49.AC.Index).toNat)+2,none⟩))] rfl ⟨et,rfl,rfl,(by omega),(by omega),rfl,Ae⟩ ?_
   obtain⟨y56,hy56⟩:∃ y,y=gd psG ((y49.AC.Index).toNat):=⟨_,rfl⟩
   refine G5 3 ((y49.AC.Index).toNat) 2 psG (⟨y56.Lock,y56.Ju,y49.At,y56.Root,(⟨y56.Tables.a,y56.Tables.cap,y56.Tables.xs⟩:Sl Int)⟩:Ar) Ar.cells z 65 5 b5 c.Aa.xs.length c.Aa.xs.length (i6 y49.At) none (by first | omega | (rw[List.length_set];omega)) (by rw[←hy56];rfl) ?_
   refine AZ 6 0 [] [[],[(ov (i6 ((mm+1:Nat):Int))),o0]] [Wr ((mm:Int)+1) (((mm+1:Nat):Int))] [(BB z),(CO b7),(8,i6 ((BX c mm).ch)),(DT c b42 o43 cp38),(Dq c),(Fj mm),(D9 y49)] rfl ⟨BP,Ae⟩ ?_
   refine Cc [0,1,2,3,4,5,6,7,8] [(Ak w),(Dk c z),(Dt z),(BV z 65 5 Ar.cells (.slice (some ⟨b5,0,none⟩) c.Aa.xs.length c.Aa.xs.length) (psG.set ((y49.AC.Index).toNat) (⟨y56.Lock,y56.Ju,y49.At,y56.Root,(⟨y56.Tables.a,y56.Tables.cap,y56.Tables.xs⟩:Sl Int)⟩:Ar))),(EU c b6 z csG),(F8 b7 c mm b5 b6),(mid n30 w36),(Fe z csG),(Fb z psG)] rfl rfl ?_
   have hT:=JU (c:=c) (m:=mm) (by omega)
   rw[←hy49,st5 _ _ (by omega)]at hT
   refine GH [2,4,8,9,10,58,59] [(BB z),(CO b7),(8,i6 ((BX c mm).ch)),(Gf c cp38 ax37),(D9 y49),(Dq c),(Fj mm)] (by(try dsimp only[F8,Jc,Dt,Dk,Ih,ES,EU,Fb,Fe,DT,GK,Dq,Gf,Fj,BB,HY,D9,CO,Ik]);simp only[ha44];rfl) ?_
   refine BR (fun a w' hs=>⟨(Dj c).length - (mm+1),by omega,(n40+1),(mm+1),(psG.set ((y49.AC.Index).toNat) (⟨y56.Lock,y56.Ju,y49.At,y56.Root,(⟨y56.Tables.a,y56.Tables.cap,y56.Tables.xs⟩:Sl Int)⟩:Ar)),csG,rfl,by omega,by omega,by rw[List.length_set];exact hlp,hlc,by rw[hT];show _=List.set _ _ _;rw[List.map_set,←hps,Np (by omega),←hy56];rfl,by rw[hT];exact hcs,by(try dsimp only[F8,Jc,Dt,Dk,Ih,ES,EU,Fb,Fe,DT,GK,Dq,Gf,Fj,BB,HY,D9,CO,Ik]at hs ⊢);rw[hT,Si (f:=Ar.Tables) (by omega) (by rw[←hy56])];exact hs⟩)
  refine Au 5 0 [0] [[oF,o0]] [EF y49.AC.Kind 5] [(BB z),(CO b7),(8,i6 ((BX c mm).ch)),(DT c b42 o43 cp38),(Dq c),(59,Ac mm),(HY n40),(D9 y49),(13,i6 y49.AC.Index),(76,i6 y49.AC.Kind),(100,.bool false)] rfl ⟨ef,Ae⟩ ?_
  by_cases h57:(y49.AC.Kind:Int)=6
  ·refine Au 6 7 [1] [[oT,o0],[o0,(a1 5),o0,o0,(a1 9),(oi ((y49.AC.Index).toNat)),o0]] [ET y49.AC.Kind 6,Qb b7,Qb n40,(y49.AC.Index:Int)=(((y49.AC.Index).toNat:Nat):Int),(y49.AC.Index).toNat<c.Aj.xs.length,BM] [(BB z),(CO b7),(DT c b42 o43 cp38),(Dq c),(59,Ac mm),(D9 y49),(13,i6 y49.AC.Index),(115,i6 y49.At),(117,.pointer (some ⟨b6,0+Ee 5 ((y49.AC.Index).toNat),none⟩))] rfl ⟨et,rfl,rfl,(by omega),(by omega),rfl,Ae⟩ ?_
   obtain⟨y58,hy58⟩:∃ y,y=gd csG ((y49.AC.Index).toNat):=⟨_,rfl⟩
   refine G5 4 ((y49.AC.Index).toNat) 0 csG (⟨y49.At,y58.Pv,y58.Partition,y58.Port,(⟨y58.DK.a,y58.DK.cap,y58.DK.xs⟩:Sl BH)⟩:AA) AA.cells z 95 5 b6 c.Aj.xs.length c.Aj.xs.length (i6 y49.At) none (by first | omega | (rw[List.length_set];omega)) (by rw[←hy58];rfl) ?_
   refine AZ 9 0 [] [[],[o0,o0],[(ov (i6 ((mm+1:Nat):Int))),o0]] [Wr ((mm:Int)+1) (((mm+1:Nat):Int))] [(BB z),(CO b7),(DT c b42 o43 cp38),(Dq c),(Fj mm),(D9 y49),(8,i6 y49.AC.Index)] rfl ⟨BP,Ae⟩ ?_
   refine Cc [0,1,2,3,4,5,6,7,8] [(Ak w),(Dk c z),(Dt z),(ES c b5 z psG),(BV z 95 5 AA.cells (.slice (some ⟨b6,0,none⟩) c.Aj.xs.length c.Aj.xs.length) (csG.set ((y49.AC.Index).toNat) (⟨y49.At,y58.Pv,y58.Partition,y58.Port,(⟨y58.DK.a,y58.DK.cap,y58.DK.xs⟩:Sl BH)⟩:AA))),(F8 b7 c mm b5 b6),(mid n30 w36),(Fe z csG),(Fb z psG)] rfl rfl ?_
   have hT:=JU (c:=c) (m:=mm) (by omega)
   rw[←hy49,st6 _ _ (by omega)]at hT
   refine GH [2,4,8,9,10,58,59] [(BB z),(CO b7),(8,i6 y49.AC.Index),(Gf c cp38 ax37),(D9 y49),(Dq c),(Fj mm)] (by(try dsimp only[F8,Jc,Dt,Dk,Ih,ES,EU,Fb,Fe,DT,GK,Dq,Gf,Fj,BB,HY,D9,CO,Ik]);simp only[ha44];rfl) ?_
   refine BR (fun a w' hs=>⟨(Dj c).length - (mm+1),by omega,(n40+1),(mm+1),psG,(csG.set ((y49.AC.Index).toNat) (⟨y49.At,y58.Pv,y58.Partition,y58.Port,(⟨y58.DK.a,y58.DK.cap,y58.DK.xs⟩:Sl BH)⟩:AA)),rfl,by omega,by omega,hlp,by rw[List.length_set];exact hlc,by rw[hT];exact hps,by rw[hT];show _=List.set _ _ _;rw[List.map_set,←hcs,Np (by omega),←hy58];rfl,by(try dsimp only[F8,Jc,Dt,Dk,Ih,ES,EU,Fb,Fe,DT,GK,Dq,Gf,Fj,BB,HY,D9,CO,Ik]at hs ⊢);rw[hT,Si (f:=AA.DK) (by omega) (by rw[←hy58])];exact hs⟩)
  refine Au 5 0 [0] [[oF,o0]] [EF y49.AC.Kind 6] [(BB z),(CO b7),(8,i6 ((BX c mm).ch)),(DT c b42 o43 cp38),(Dq c),(59,Ac mm),(HY n40),(D9 y49),(13,i6 y49.AC.Index),(76,i6 y49.AC.Kind),(109,.bool false)] rfl ⟨ef,Ae⟩ ?_
  by_cases h59:(y49.AC.Kind:Int)=7
  ·refine Au 5 7 [1] [[oT,o0],[o0,(a1 5),o0,o0,(a1 9),(oi ((y49.AC.Index).toNat)),o0]] [ET y49.AC.Kind 7,Qb b7,Qb n40,(y49.AC.Index:Int)=(((y49.AC.Index).toNat:Nat):Int),(y49.AC.Index).toNat<c.Aj.xs.length,BM] [(BB z),(CO b7),(8,i6 ((BX c mm).ch)),(DT c b42 o43 cp38),(Dq c),(59,Ac mm),(D9 y49),(125,i6 y49.At),(127,.pointer (some ⟨b6,0+Ee 5 ((y49.AC.Index).toNat)+1,none⟩))] rfl ⟨et,rfl,rfl,(by omega),(by omega),rfl,Ae⟩ ?_
   obtain⟨y60,hy60⟩:∃ y,y=gd csG ((y49.AC.Index).toNat):=⟨_,rfl⟩
   refine G5 4 ((y49.AC.Index).toNat) 1 csG (⟨y60.Lock,y49.At,y60.Partition,y60.Port,(⟨y60.DK.a,y60.DK.cap,y60.DK.xs⟩:Sl BH)⟩:AA) AA.cells z 95 5 b6 c.Aj.xs.length c.Aj.xs.length (i6 y49.At) none (by first | omega | (rw[List.length_set];omega)) (by rw[←hy60];rfl) ?_
   refine AZ 6 0 [] [[],[(ov (i6 ((mm+1:Nat):Int))),o0]] [Wr ((mm:Int)+1) (((mm+1:Nat):Int))] [(BB z),(CO b7),(8,i6 ((BX c mm).ch)),(DT c b42 o43 cp38),(Dq c),(Fj mm),(D9 y49)] rfl ⟨BP,Ae⟩ ?_
   refine Cc [0,1,2,3,4,5,6,7,8] [(Ak w),(Dk c z),(Dt z),(ES c b5 z psG),(BV z 95 5 AA.cells (.slice (some ⟨b6,0,none⟩) c.Aj.xs.length c.Aj.xs.length) (csG.set ((y49.AC.Index).toNat) (⟨y60.Lock,y49.At,y60.Partition,y60.Port,(⟨y60.DK.a,y60.DK.cap,y60.DK.xs⟩:Sl BH)⟩:AA))),(F8 b7 c mm b5 b6),(mid n30 w36),(Fe z csG),(Fb z psG)] rfl rfl ?_
   have hT:=JU (c:=c) (m:=mm) (by omega)
   rw[←hy49,st7 _ _ (by omega)]at hT
   refine GH [2,4,8,9,10,58,59] [(BB z),(CO b7),(8,i6 ((BX c mm).ch)),(Gf c cp38 ax37),(D9 y49),(Dq c),(Fj mm)] (by(try dsimp only[F8,Jc,Dt,Dk,Ih,ES,EU,Fb,Fe,DT,GK,Dq,Gf,Fj,BB,HY,D9,CO,Ik]);simp only[ha44];rfl) ?_
   refine BR (fun a w' hs=>⟨(Dj c).length - (mm+1),by omega,(n40+1),(mm+1),psG,(csG.set ((y49.AC.Index).toNat) (⟨y60.Lock,y49.At,y60.Partition,y60.Port,(⟨y60.DK.a,y60.DK.cap,y60.DK.xs⟩:Sl BH)⟩:AA)),rfl,by omega,by omega,hlp,by rw[List.length_set];exact hlc,by rw[hT];exact hps,by rw[hT];show _=List.set _ _ _;rw[List.map_set,←hcs,Np (by omega),←hy60];rfl,by(try dsimp only[F8,Jc,Dt,Dk,Ih,ES,EU,Fb,Fe,DT,GK,Dq,Gf,Fj,BB,HY,D9,CO,Ik]at hs ⊢);rw[hT,Si (f:=AA.DK) (by omega) (by rw[←hy60])];exact hs⟩)
  refine Au 5 0 [0] [[oF,o0]] [EF y49.AC.Kind 7] [(BB z),(CO b7),(8,i6 ((BX c mm).ch)),(DT c b42 o43 cp38),(Dq c),(59,Ac mm),(HY n40),(D9 y49),(13,i6 y49.AC.Index),(76,i6 y49.AC.Kind),(119,.bool false)] rfl ⟨ef,Ae⟩ ?_
  by_cases h61:(y49.AC.Kind:Int)=8
  ·refine Au 4 0 [1] [[oT,o0]] [ET y49.AC.Kind 8] [(BB z),(CO b7),(8,i6 ((BX c mm).ch)),(DT c b42 o43 cp38),(Dq c),(59,Ac mm),(HY n40),(D9 y49),(13,i6 y49.AC.Index),(76,i6 y49.AC.Kind),(128,.bool true)] rfl ⟨et,Ae⟩ ?_
   obtain⟨y62,hy62⟩:∃ y,y=gd csG (((BX c mm).ch).toNat):=⟨_,rfl⟩
   refine g_famOut 7 [0,1,2,3,4,5,6,8,9] z 103 3 BH.cells (csG.map AA.DK) (((BX c mm).ch).toNat) y62.DK (by rw[Np (by omega),←hy62]) (by rw[List.length_map];omega) [(Ak w),(Dk c z),(Dt z),(ES c b5 z psG),(EU c b6 z csG),(F8 b7 c mm b5 b6),(mid n30 w36),(Fb z psG),(J6 y49 n40)] ?_
   have hbig:y62.DK.xs.length≤mm:=by have hb:=(Xf hfine mm (by omega)).2 (nC y62) (by rw[hy62,←hcs];exact List.mem_map_of_mem (Rh (by omega)));exact hb
   refine DZ 20 [0,1,2,3,4,5,6,7,8,9] [(Ak w),(Dk c z),(Dt z),(ES c b5 z psG),(EU c b6 z csG),(F8 b7 c mm b5 b6),(mid n30 w36),(Fb z psG),(J6 y49 n40),(Vo c mm z csG)] rfl rfl ?_
   refine Ci [(0,o0),(1,(a1 5)),(2,o0),(3,o0),(4,(a1 5)),(5,o0),(6,(oi (((BX c mm).ch).toNat))),(7,o0),(8,(oa [.via 4 (.slice y62.DK.a y62.DK.xs.length y62.DK.cap)])),(9,o0),(10,o0),(11,o0),(12,(a1 8)),(13,o0),(14,(a1 8)),(15,o0)] [2,4,8,9,58,59,10,131,132,138,145] [Qb b7,Qb b7,((BX c mm).ch:Int)=((((BX c mm).ch).toNat:Nat):Int),((BX c mm).ch).toNat<c.Aj.xs.length,BM,∀ w',Ch.holds (EU c b6 z csG) w'→w'.cell? ⟨b6,0+Ee 5 (((BX c mm).ch).toNat)+4,none⟩=some (.slice y62.DK.a y62.DK.xs.length y62.DK.cap),Qb n40,Qb n40] (Dw 16 5) [(BB z),(CO b7),(8,i6 ((BX c mm).ch)),(DT c b42 o43 cp38),(Dq c),(59,Ac mm),(D9 y49),(Vw c b6),(132,i6 ((BX c mm).ch)),(138,.slice y62.DK.a y62.DK.xs.length y62.DK.cap),(145,.agg #[i6 y49.AC.Index,i6 y49.AC.Port,i6 y49.At])] ⟨rfl,rfl,(by omega),(by omega),rfl,C9 (sz:=5) (j:=((BX c mm).ch).toNat) (k:=4) (fun _=>rfl) (by first | omega | (rw[List.length_set];omega)) (by rw[←hy62];rfl),rfl,rfl,Ae⟩ ?_
   refine Bq 16 ?_
   refine BC o0 [2,4,8,9,58,59,10,131,132,138,146] [] [(BB z),(CO b7),(8,i6 ((BX c mm).ch)),(DT c b42 o43 cp38),(Dq c),(59,Ac mm),(D9 y49),(Vw c b6),(132,i6 ((BX c mm).ch)),(138,.slice y62.DK.a y62.DK.xs.length y62.DK.cap),(146,.slice (some ⟨n40+1,0,none⟩) 1 1)] ⟨w,n40+2,[(Ak w),(Dk c z),(Dt z),(ES c b5 z psG),(EU c b6 z csG),(F8 b7 c mm b5 b6),(mid n30 w36),(Fb z psG),(J6 y49 n40),(Vo c mm z csG),(BV z 103 3 BH.cells (.slice y62.DK.a y62.DK.xs.length y62.DK.cap) y62.DK.xs),(XC y49 n40)]⟩ [0,1,2,3,4,5,6,7,8,9] Ae (.inr rfl) ?_
   refine Bq 17 ?_
   refine Uf z 10 11 y62.DK.xs [(⟨y49.AC.Index,y49.AC.Port,y49.At⟩:BH)] BH.cells 103 3 24 (.slice y62.DK.a y62.DK.xs.length y62.DK.cap) (n40+1) 1 1 #[i6 y49.AC.Index,i6 y49.AC.Port,i6 y49.At] 103 (0,0) true (some 147) [0,1,2,3,4,5,6,7,8,9] (by simp only[List.length_cons,List.length_nil,List.length_append];omega) (show z≤n40+2 by omega) (.inr ⟨rfl,rfl⟩) (fun ax63 cp64 n65 (hn66:n40+2≤n65) => ?_)
   refine CY [2,4,8,9,58,59,10,131,132,147] [(BB z),(CO b7),(8,i6 ((BX c mm).ch)),(DT c b42 o43 cp38),(Dq c),(59,Ac mm),(D9 y49),(Vw c b6),(132,i6 ((BX c mm).ch)),(147,.slice ax63 ((y62.DK.xs++[(⟨y49.AC.Index,y49.AC.Port,y49.At⟩:BH)]).length) cp64)] ?_
   refine Ci [(18,(oi (((BX c mm).ch).toNat))),(19,o0)] [2,4,8,9,58,59,10,147,149] [((BX c mm).ch:Int)=((((BX c mm).ch).toNat:Nat):Int),((BX c mm).ch).toNat<c.Aj.xs.length,BM] (Dw 20 1) [(BB z),(CO b7),(8,i6 ((BX c mm).ch)),(DT c b42 o43 cp38),(Dq c),(59,Ac mm),(D9 y49),(147,.slice ax63 ((y62.DK.xs++[(⟨y49.AC.Index,y49.AC.Port,y49.At⟩:BH)]).length) cp64),(149,.pointer (some ⟨b6,0+Ee 5 (((BX c mm).ch).toNat)+4,none⟩))] ⟨(by omega),(by omega),rfl,Ae⟩ ?_
   refine Bq 20 ?_
   refine UW 4 (((BX c mm).ch).toNat) 4 csG (⟨y62.Lock,y62.Pv,y62.Partition,y62.Port,(⟨ax63,cp64,(y62.DK.xs++[(⟨y49.AC.Index,y49.AC.Port,y49.At⟩:BH)])⟩:Sl BH)⟩:AA) AA.cells z 95 5 b6 c.Aj.xs.length c.Aj.xs.length (.slice ax63 ((y62.DK.xs++[(⟨y49.AC.Index,y49.AC.Port,y49.At⟩:BH)]).length) cp64) none [] (by first | omega | (rw[List.length_set];omega)) (by rw[←hy62];rfl) (.inl rfl) ?_
   refine CY [2,4,8,9,58,59,10] [(BB z),(CO b7),(8,i6 ((BX c mm).ch)),(DT c b42 o43 cp38),(Dq c),(59,Ac mm),(D9 y49)] ?_
   refine DX 21 [0,1,2,3,4,5,6,7,8,9,10,11] [(Ak w),(Dk c z),(Dt z),(ES c b5 z psG),(VK c mm b6 y49 z csG y62 ax63 cp64),(F8 b7 c mm b5 b6),(mid n30 w36),(Fb z psG),(J6 y49 n40),(Vo c mm z csG),(BV z 103 3 BH.cells (.slice ax63 ((y62.DK.xs++[(⟨y49.AC.Index,y49.AC.Port,y49.At⟩:BH)]).length) cp64) (y62.DK.xs++[(⟨y49.AC.Index,y49.AC.Port,y49.At⟩:BH)])),(XC y49 n40)] rfl rfl ?_
   refine CE ?_
   refine NU 5 0 [] [[(ov (i6 ((mm+1:Nat):Int))),o0]] [Wr ((mm:Int)+1) (((mm+1:Nat):Int))] [(BB z),(CO b7),(8,i6 ((BX c mm).ch)),(DT c b42 o43 cp38),(Dq c),(Fj mm),(D9 y49)] rfl ⟨BP,Ae⟩ ?_
   refine e_famIn 9 10 [0,1,2,3,4,5,6,7,8,11] z 103 3 BH.cells (csG.map AA.DK) (((BX c mm).ch).toNat) (by rw[List.length_map];omega) ax63 cp64 (y62.DK.xs++[(⟨y49.AC.Index,y49.AC.Port,y49.At⟩:BH)]) [(Ak w),(Dk c z),(Dt z),(ES c b5 z psG),(VK c mm b6 y49 z csG y62 ax63 cp64),(F8 b7 c mm b5 b6),(mid n30 w36),(Fb z psG),(J6 y49 n40),(XC y49 n40)] ?_
   refine Cc [0,1,2,3,4,5,6,10,7] [(Ak w),(Dk c z),(Dt z),(ES c b5 z psG),(VK c mm b6 y49 z csG y62 ax63 cp64),(F8 b7 c mm b5 b6),(mid n30 w36),(Ja z 103 3 BH.cells ((csG.map AA.DK).set (((BX c mm).ch).toNat) ⟨ax63,cp64,(y62.DK.xs++[(⟨y49.AC.Index,y49.AC.Port,y49.At⟩:BH)])⟩)),(Fb z psG)] rfl rfl ?_
   have hT:=JU (c:=c) (m:=mm) (by omega)
   rw[←hy49,st8 _ _ (by omega)]at hT
   refine GH [2,4,8,9,10,58,59] [(BB z),(CO b7),(8,i6 ((BX c mm).ch)),(Gf c cp38 ax37),(D9 y49),(Dq c),(Fj mm)] (by(try dsimp only[F8,Jc,XC,Dt,J6,Dk,VK,Ih,ES,EU,Vo,Fb,Fe,Vw,DT,GK,Dq,Gf,Fj,BB,D9,CO,Ik]);simp only[ha44];rfl) ?_
   refine BR (fun a w' hs=>⟨(Dj c).length - (mm+1),by omega,n65,(mm+1),psG,(csG.set (((BX c mm).ch).toNat) (⟨y62.Lock,y62.Pv,y62.Partition,y62.Port,(⟨ax63,cp64,(y62.DK.xs++[(⟨y49.AC.Index,y49.AC.Port,y49.At⟩:BH)])⟩:Sl BH)⟩:AA)),rfl,by omega,by omega,hlp,by rw[List.length_set];exact hlc,by rw[hT];exact hps,by rw[hT];show _=List.set _ _ _;rw[List.map_set,←hcs,Np (by omega),←hy62];rfl,by(try dsimp only[F8,Jc,XC,Dt,J6,Dk,VK,Ih,ES,EU,Vo,Fb,Fe,Vw,DT,GK,Dq,Gf,Fj,BB,D9,CO,Ik]at hs ⊢);rw[hT,List.map_set];exact hs⟩)
  refine Au 5 0 [0] [[oF,o0]] [EF y49.AC.Kind 8] [(BB z),(CO b7),(8,i6 ((BX c mm).ch)),(DT c b42 o43 cp38),(Dq c),(59,Ac mm),(HY n40),(D9 y49),(13,i6 y49.AC.Index),(76,i6 y49.AC.Kind),(128,.bool false)] rfl ⟨ef,Ae⟩ ?_
  by_cases h67:(y49.AC.Kind:Int)=9
  ·refine Au 5 0 [1] [[oT,o0]] [ET y49.AC.Kind 9] [(BB z),(CO b7),(8,i6 ((BX c mm).ch)),(DT c b42 o43 cp38),(Dq c),(59,Ac mm),(HY n40),(D9 y49),(13,i6 y49.AC.Index),(150,.bool true)] rfl ⟨et,Ae⟩ ?_
   obtain⟨y68,hy68⟩:∃ y,y=gd psG ((y49.AC.Index).toNat):=⟨_,rfl⟩
   by_cases h69:(y68.Root:Int)=0
   ·refine Au 5 8 [1] [[o0,(a1 5),o0,(oi ((y49.AC.Index).toNat)),o0,(oa [.via 3 (i6 y68.Root)]),oT],[o0,(a1 5),o0,o0,(a1 9),(ov (i6 (y49.At / 16))),(oi ((y49.AC.Index).toNat)),o0]] [Qb b7,(y49.AC.Index:Int)=(((y49.AC.Index).toNat:Nat):Int),(y49.AC.Index).toNat<c.Aa.xs.length,BM,∀ w',Ch.holds (ES c b5 z psG) w'→w'.cell? ⟨b5,0+Ee 5 ((y49.AC.Index).toNat)+3,none⟩=some (i6 y68.Root),ET y68.Root 0,Qb b7,Qb n40,Wr (Int.tdiv (y49.At) 16) (y49.At / 16),(y49.AC.Index:Int)=(((y49.AC.Index).toNat:Nat):Int),(y49.AC.Index).toNat<c.Aa.xs.length,BM] [(BB z),(CO b7),(8,i6 ((BX c mm).ch)),(DT c b42 o43 cp38),(Dq c),(59,Ac mm),(D9 y49),(164,i6 (y49.At / 16)),(166,.pointer (some ⟨b5,0+Ee 5 ((y49.AC.Index).toNat)+3,none⟩))] rfl ⟨rfl,(by omega),(by omega),rfl,C9 (sz:=5) (j:=(y49.AC.Index).toNat) (k:=3) (fun _=>rfl) (by first | omega | (rw[List.length_set];omega)) (by rw[←hy68];rfl),et,rfl,rfl,congrArg (Value.int .i64) (Me (by omega) (by omega) (by omega)),(by omega),(by omega),rfl,Ae⟩ ?_
    refine G5 3 ((y49.AC.Index).toNat) 3 psG (⟨y68.Lock,y68.Ju,y68.State,y49.At / 16,(⟨y68.Tables.a,y68.Tables.cap,y68.Tables.xs⟩:Sl Int)⟩:Ar) Ar.cells z 65 5 b5 c.Aa.xs.length c.Aa.xs.length (i6 (y49.At / 16)) none (by first | omega | (rw[List.length_set];omega)) (by rw[←hy68];rfl) ?_
    refine AZ 6 0 [] [[],[(ov (i6 ((mm+1:Nat):Int))),o0]] [Wr ((mm:Int)+1) (((mm+1:Nat):Int))] [(BB z),(CO b7),(8,i6 ((BX c mm).ch)),(DT c b42 o43 cp38),(Dq c),(Fj mm),(D9 y49)] rfl ⟨BP,Ae⟩ ?_
    refine Cc [0,1,2,3,4,5,6,7,8] [(Ak w),(Dk c z),(Dt z),(BV z 65 5 Ar.cells (.slice (some ⟨b5,0,none⟩) c.Aa.xs.length c.Aa.xs.length) (psG.set ((y49.AC.Index).toNat) (⟨y68.Lock,y68.Ju,y68.State,y49.At / 16,(⟨y68.Tables.a,y68.Tables.cap,y68.Tables.xs⟩:Sl Int)⟩:Ar))),(EU c b6 z csG),(F8 b7 c mm b5 b6),(mid n30 w36),(Fe z csG),(Fb z psG)] rfl rfl ?_
    have hT:=JU (c:=c) (m:=mm) (by omega)
    rw[←hy49,st9 _ _ (by omega)]at hT
    refine GH [2,4,8,9,10,58,59] [(BB z),(CO b7),(8,i6 ((BX c mm).ch)),(Gf c cp38 ax37),(D9 y49),(Dq c),(Fj mm)] (by(try dsimp only[F8,Jc,Dt,Dk,Ih,ES,EU,Fb,Fe,DT,GK,Dq,Gf,Fj,BB,HY,D9,CO,Ik]);simp only[ha44];rfl) ?_
    refine BR (fun a w' hs=>⟨(Dj c).length - (mm+1),by omega,(n40+1),(mm+1),(psG.set ((y49.AC.Index).toNat) (⟨y68.Lock,y68.Ju,y68.State,y49.At / 16,(⟨y68.Tables.a,y68.Tables.cap,y68.Tables.xs⟩:Sl Int)⟩:Ar)),csG,rfl,by omega,by omega,by rw[List.length_set];exact hlp,hlc,by rw[hT];show _=List.set _ _ _;rw[List.map_set,←hps,Np (by omega),←hy68];rw[tabF_pos (p:=nP y68) (show y68.Root=0 from by omega)];rfl,by rw[hT];exact hcs,by(try dsimp only[F8,Jc,Dt,Dk,Ih,ES,EU,Fb,Fe,DT,GK,Dq,Gf,Fj,BB,HY,D9,CO,Ik]at hs ⊢);rw[hT,Si (f:=Ar.Tables) (by omega) (by rw[←hy68])];exact hs⟩)
   refine Au 4 0 [0] [[o0,(a1 5),o0,(oi ((y49.AC.Index).toNat)),o0,(oa [.via 3 (i6 y68.Root)]),oF]] [Qb b7,(y49.AC.Index:Int)=(((y49.AC.Index).toNat:Nat):Int),(y49.AC.Index).toNat<c.Aa.xs.length,BM,∀ w',Ch.holds (ES c b5 z psG) w'→w'.cell? ⟨b5,0+Ee 5 ((y49.AC.Index).toNat)+3,none⟩=some (i6 y68.Root),EF y68.Root 0] [(BB z),(CO b7),(8,i6 ((BX c mm).ch)),(DT c b42 o43 cp38),(Dq c),(59,Ac mm),(HY n40),(D9 y49),(13,i6 y49.AC.Index),(158,.bool false)] rfl ⟨rfl,(by omega),(by omega),rfl,C9 (sz:=5) (j:=(y49.AC.Index).toNat) (k:=3) (fun _=>rfl) (by first | omega | (rw[List.length_set];omega)) (by rw[←hy68];rfl),ef,Ae⟩ ?_
   refine g_famOut 8 [0,1,2,3,4,5,6,7,9] z 3 1 (fun x:Int=>[i6 x]) (psG.map Ar.Tables) ((y49.AC.Index).toNat) y68.Tables (by rw[Np (by omega),←hy68]) (by rw[List.length_map];omega) [(Ak w),(Dk c z),(Dt z),(ES c b5 z psG),(EU c b6 z csG),(F8 b7 c mm b5 b6),(mid n30 w36),(Fe z csG),(J6 y49 n40)] ?_
   have hbig:y68.Tables.xs.length≤mm:=by have hb:=(Xf hfine mm (by omega)).1 (nP y68) (by rw[hy68,←hps];exact List.mem_map_of_mem (Rh (by omega)));exact hb
   refine DZ 16 [0,1,2,3,4,5,6,7,8,9] [(Ak w),(Dk c z),(Dt z),(ES c b5 z psG),(EU c b6 z csG),(F8 b7 c mm b5 b6),(mid n30 w36),(Fe z csG),(J6 y49 n40),(V6 y49 z psG)] rfl rfl ?_
   refine Ci [(0,o0),(1,(a1 5)),(2,o0),(3,o0),(4,(a1 5)),(5,o0),(6,(oi ((y49.AC.Index).toNat))),(7,o0),(8,(oa [.via 3 (.slice y68.Tables.a y68.Tables.xs.length y68.Tables.cap)])),(9,o0),(10,(a1 8)),(11,(ov (i6 (y49.At / 16))))] [2,4,8,9,58,59,10,168,169,175,178] [Qb b7,Qb b7,(y49.AC.Index:Int)=(((y49.AC.Index).toNat:Nat):Int),(y49.AC.Index).toNat<c.Aa.xs.length,BM,∀ w',Ch.holds (ES c b5 z psG) w'→w'.cell? ⟨b5,0+Ee 5 ((y49.AC.Index).toNat)+4,none⟩=some (.slice y68.Tables.a y68.Tables.xs.length y68.Tables.cap),Qb n40,Wr (Int.tdiv (y49.At) 16) (y49.At / 16)] (Dw 12 5) [(BB z),(CO b7),(8,i6 ((BX c mm).ch)),(DT c b42 o43 cp38),(Dq c),(59,Ac mm),(D9 y49),(VZ c b5),(169,i6 y49.AC.Index),(175,.slice y68.Tables.a y68.Tables.xs.length y68.Tables.cap),(178,i6 (y49.At / 16))] ⟨rfl,rfl,(by omega),(by omega),rfl,C9 (sz:=5) (j:=(y49.AC.Index).toNat) (k:=4) (fun _=>rfl) (by first | omega | (rw[List.length_set];omega)) (by rw[←hy68];rfl),rfl,congrArg (Value.int .i64) (Me (by omega) (by omega) (by omega)),Ae⟩ ?_
   refine Bq 12 ?_
   refine BC o0 [2,4,8,9,58,59,10,168,169,175,179] [] [(BB z),(CO b7),(8,i6 ((BX c mm).ch)),(DT c b42 o43 cp38),(Dq c),(59,Ac mm),(D9 y49),(VZ c b5),(169,i6 y49.AC.Index),(175,.slice y68.Tables.a y68.Tables.xs.length y68.Tables.cap),(179,.slice (some ⟨n40+1,0,none⟩) 1 1)] ⟨w,n40+2,[(Ak w),(Dk c z),(Dt z),(ES c b5 z psG),(EU c b6 z csG),(F8 b7 c mm b5 b6),(mid n30 w36),(Fe z csG),(J6 y49 n40),(V6 y49 z psG),(BV z 3 1 (fun x:Int=>[i6 x]) (.slice y68.Tables.a y68.Tables.xs.length y68.Tables.cap) y68.Tables.xs),(bk (n40+1) #[i6 (y49.At / 16)] 3)]⟩ [0,1,2,3,4,5,6,7,8,9] Ae (.inr rfl) ?_
   refine Bq 13 ?_
   refine Uf z 10 11 y68.Tables.xs [y49.At / 16] (fun x:Int=>[i6 x]) 3 1 8 (.slice y68.Tables.a y68.Tables.xs.length y68.Tables.cap) (n40+1) 1 1 #[i6 (y49.At / 16)] 3 (0,0) true (some 180) [0,1,2,3,4,5,6,7,8,9] (by simp only[List.length_cons,List.length_nil,List.length_append];omega) (show z≤n40+2 by omega) (.inr ⟨rfl,rfl⟩) (fun ax70 cp71 n72 (hn73:n40+2≤n72) => ?_)
   refine CY [2,4,8,9,58,59,10,168,169,180] [(BB z),(CO b7),(8,i6 ((BX c mm).ch)),(DT c b42 o43 cp38),(Dq c),(59,Ac mm),(D9 y49),(VZ c b5),(169,i6 y49.AC.Index),(180,.slice ax70 ((y68.Tables.xs++[y49.At / 16]).length) cp71)] ?_
   refine Ci [(14,(oi ((y49.AC.Index).toNat))),(15,o0)] [2,4,8,9,58,59,10,180,182] [(y49.AC.Index:Int)=(((y49.AC.Index).toNat:Nat):Int),(y49.AC.Index).toNat<c.Aa.xs.length,BM] (Dw 16 1) [(BB z),(CO b7),(8,i6 ((BX c mm).ch)),(DT c b42 o43 cp38),(Dq c),(59,Ac mm),(D9 y49),(180,.slice ax70 ((y68.Tables.xs++[y49.At / 16]).length) cp71),(182,.pointer (some ⟨b5,0+Ee 5 ((y49.AC.Index).toNat)+4,none⟩))] ⟨(by omega),(by omega),rfl,Ae⟩ ?_
   refine Bq 16 ?_
   refine UW 3 ((y49.AC.Index).toNat) 4 psG (⟨y68.Lock,y68.Ju,y68.State,y68.Root,(⟨ax70,cp71,(y68.Tables.xs++[y49.At / 16])⟩:Sl Int)⟩:Ar) Ar.cells z 65 5 b5 c.Aa.xs.length c.Aa.xs.length (.slice ax70 ((y68.Tables.xs++[y49.At / 16]).length) cp71) none [] (by first | omega | (rw[List.length_set];omega)) (by rw[←hy68];rfl) (.inl rfl) ?_
   refine CY [2,4,8,9,58,59,10] [(BB z),(CO b7),(8,i6 ((BX c mm).ch)),(DT c b42 o43 cp38),(Dq c),(59,Ac mm),(D9 y49)] ?_
   refine DX 17 [0,1,2,3,4,5,6,7,8,9,10,11] [(Ak w),(Dk c z),(Dt z),(We c b5 y49 z psG y68 ax70 cp71),(EU c b6 z csG),(F8 b7 c mm b5 b6),(mid n30 w36),(Fe z csG),(J6 y49 n40),(V6 y49 z psG),(BV z 3 1 (fun x:Int=>[i6 x]) (.slice ax70 ((y68.Tables.xs++[y49.At / 16]).length) cp71) (y68.Tables.xs++[y49.At / 16])),(bk (n40+1) #[i6 (y49.At / 16)] 3)] rfl rfl ?_
   refine CE ?_
   refine NU 5 0 [] [[(ov (i6 ((mm+1:Nat):Int))),o0]] [Wr ((mm:Int)+1) (((mm+1:Nat):Int))] [(BB z),(CO b7),(8,i6 ((BX c mm).ch)),(DT c b42 o43 cp38),(Dq c),(Fj mm),(D9 y49)] rfl ⟨BP,Ae⟩ ?_
   refine e_famIn 9 10 [0,1,2,3,4,5,6,7,8,11] z 3 1 (fun x:Int=>[i6 x]) (psG.map Ar.Tables) ((y49.AC.Index).toNat) (by rw[List.length_map];omega) ax70 cp71 (y68.Tables.xs++[y49.At / 16]) [(Ak w),(Dk c z),(Dt z),(We c b5 y49 z psG y68 ax70 cp71),(EU c b6 z csG),(F8 b7 c mm b5 b6),(mid n30 w36),(Fe z csG),(J6 y49 n40),(bk (n40+1) #[i6 (y49.At / 16)] 3)] ?_
   refine Cc [0,1,2,3,4,5,6,7,10] [(Ak w),(Dk c z),(Dt z),(We c b5 y49 z psG y68 ax70 cp71),(EU c b6 z csG),(F8 b7 c mm b5 b6),(mid n30 w36),(Fe z csG),(Ja z 3 1 (fun x:Int=>[i6 x]) ((psG.map Ar.Tables).set ((y49.AC.Index).toNat) ⟨ax70,cp71,(y68.Tables.xs++[y49.At / 16])⟩))] rfl rfl ?_
   have hT:=JU (c:=c) (m:=mm) (by omega)
   rw[←hy49,st9 _ _ (by omega)]at hT
   refine GH [2,4,8,9,10,58,59] [(BB z),(CO b7),(8,i6 ((BX c mm).ch)),(Gf c cp38 ax37),(D9 y49),(Dq c),(Fj mm)] (by(try dsimp only[F8,Jc,Dt,J6,Dk,We,Ih,V6,ES,EU,Fb,Fe,VZ,DT,GK,Dq,Gf,Fj,BB,D9,CO,Ik]);simp only[ha44];rfl) ?_
   refine BR (fun a w' hs=>⟨(Dj c).length - (mm+1),by omega,n72,(mm+1),(psG.set ((y49.AC.Index).toNat) (⟨y68.Lock,y68.Ju,y68.State,y68.Root,(⟨ax70,cp71,(y68.Tables.xs++[y49.At / 16])⟩:Sl Int)⟩:Ar)),csG,rfl,by omega,by omega,by rw[List.length_set];exact hlp,hlc,by rw[hT];show _=List.set _ _ _;rw[List.map_set,←hps,Np (by omega),←hy68];rw[tabF_neg (p:=nP y68) (show ¬ y68.Root=0 from by omega)];rfl,by rw[hT];exact hcs,by(try dsimp only[F8,Jc,Dt,J6,Dk,We,Ih,V6,ES,EU,Fb,Fe,VZ,DT,GK,Dq,Gf,Fj,BB,D9,CO,Ik]at hs ⊢);rw[hT,List.map_set];exact hs⟩)
  refine Au 10 0 [0] [[oF,o0],[(ov (i6 ((mm+1:Nat):Int))),o0]] [EF y49.AC.Kind 9,Wr ((mm:Int)+1) (((mm+1:Nat):Int))] [(BB z),(CO b7),(8,i6 ((BX c mm).ch)),(DT c b42 o43 cp38),(Dq c),(Fj mm),(D9 y49)] rfl ⟨ef,BP,Ae⟩ ?_
  exfalso;omega
 refine q_c 19 0 [0] [[oF],[o0,(ov (i6 (((BX c mm).fin)+16))),(ov (i6 ((((BX c mm).fin)+16) - 1))),(ov (i6 (((((BX c mm).fin)+16) - 1) / 16))),o0,(a1 5)],[(an 4 5),(an 4 2),o0]] [BF ((mm:Int)<(((Dj c).length:Nat):Int)),Wr (((BX c mm).fin:Int)+16) (((BX c mm).fin)+16),Wr ((((BX c mm).fin)+16:Int) - 1) ((((BX c mm).fin)+16) - 1),Wr (Int.tdiv ((((BX c mm).fin)+16) - 1) 16) (((((BX c mm).fin)+16) - 1) / 16),Qb b7,Qb b7,Qb b7,Qb b7,Qb b7,Qb (z+1),Qb (z+1),Qb (z+1),Qb (z+1)] [(BB z),(3,i6 0)] ⟨w,n40,[(Ak w),(Dk c z),(bk (z+1) #[i6 ((BX c mm).bar),.slice (some ⟨b5,0,none⟩) c.Aa.xs.length c.Aa.xs.length,.slice (some ⟨b6,0,none⟩) c.Aj.xs.length c.Aj.xs.length,i6 (((((BX c mm).fin)+16) - 1) / 16)] 58),(ES c b5 z psG),(EU c b6 z csG),(bk b7 #[i6 ((BX c mm).bar),.slice (some ⟨b5,0,none⟩) c.Aa.xs.length c.Aa.xs.length,.slice (some ⟨b6,0,none⟩) c.Aj.xs.length c.Aj.xs.length,i6 (((((BX c mm).fin)+16) - 1) / 16)] 58),(mid n30 w36),(Fe z csG),(Fb z psG)]⟩ rfl ⟨bf,BP,BP,congrArg (Value.int .i64) (Me (by omega) (by omega) (by omega)),rfl,rfl,rfl,rfl,rfl,rfl,rfl,rfl,rfl,Ae⟩ ?_
 refine Az [.at 2,.at 2,.at 2,.at 2] [Qb (z+1),Qb (z+1),Qb (z+1),Qb (z+1)] (.tuple #[.agg #[i6 ((BX c mm).bar),.slice (some ⟨b5,0,none⟩) c.Aa.xs.length c.Aa.xs.length,.slice (some ⟨b6,0,none⟩) c.Aj.xs.length c.Aj.xs.length,i6 (((((BX c mm).fin)+16) - 1) / 16)],i6 0]) ⟨rfl,rfl,rfl,rfl,Ae⟩ ?_
 intro w74 hw74
 have hm:mm=(Dj c).length:=by omega
 subst hm
 have hL:WF c ⟨(BX c (Dj c).length).bar,⟨(some ⟨b5,0,none⟩),c.Aa.xs.length,psG⟩,⟨(some ⟨b6,0,none⟩),c.Aj.xs.length,csG⟩,((BX c (Dj c).length).fin+16 - 1) / 16⟩:=lay_of hfine hps hcs
 have hO:Xu z w74 ⟨(BX c (Dj c).length).bar,⟨(some ⟨b5,0,none⟩),c.Aa.xs.length,psG⟩,⟨(some ⟨b6,0,none⟩),c.Aj.xs.length,csG⟩,((BX c (Dj c).length).fin+16 - 1) / 16⟩:=⟨w,by
  have h4:=hw74.pick [3,4,7,8] rfl rfl
  rw[hw74.size]
  unfold layS Sl.val
  simp only[hlp,hlc]
  exact h4⟩
 refine⟨_, ?_,hL,hz ▸ lay_ok hfine hL hO,hz ▸ hO,AB hw74⟩
 simp only[Ha.arr,hlp,hlc]
theorem rneed_calls(w:World)(c:Ai)(hc:Ai.ok Any w c):Calls Tryd.prog 86 #[.agg (Ai.arr c)] w fun e w'=>e = .returned (.tuple #[.int .i64 (JC c),.int .i64 (errOf c)])∧Ce (fun _=>False) w w':=by
 obtain⟨z,hz⟩:∃ z,z=w.heap.size:=⟨_,rfl⟩
 refine Bf (args:=[.agg (Ai.arr c)]) 19 ⟨w,z,[(Ak w)]⟩ Tryd.func86 rfl (by kernel_rfl) (by kernel_rfl) (Ed hz) ?_
 refine Di [0] [(0,.agg (Ai.arr c))] ?_
 refine q_c 6 1 [] [[o0,o0,o0],[(an 7 1)]] [Qb z,Qb z,Qb z,Qb z,Qb z,Qb z,Qb z] [(1,pt z),(7,.agg (Ai.arr c))] ⟨w,z+1,[(Ak w),(bk z (Ai.arr c) 26)]⟩ rfl ⟨rfl,rfl,rfl,rfl,rfl,rfl,rfl,Ae⟩ ?_
 refine l_call [] [] 12 #[.agg (Ai.arr c)] (some 8) Ae ?_
 intro w1 hw1
 by_cases hok2:Ep c=true
 ·refine(rof_yes w1 c (hc.ext (hw1.ext rfl) (fun _ h=>h)) hok2).mono ?_
  rintro e w3 ⟨lw3,rfl,hIw3,hLw3,hOw3,hkw3⟩
  have hfw3:=Sz hok2;have hknw3:=hfw3.kn;have hEw3:=hIw3.fin;have hEbw3:=RF hfw3 _ (Nat.le_refl _);have hpnw3:=hfw3.pn
  rw[hw1.size]at hLw3 hOw3
  have hnw3:z+1≤w3.heap.size:=Ef hw1 hkw3
  refine⟨_,_,rfl,hw1.U1 hkw3, ?_⟩
  refine EI 15 0 [0] [[o0,o0,o0,o0,(an 4 3),o0],[o0,o0],[o0,(a1 3),o0,(a1 1),(ov (i6 (lw3.End - c.Kernel))),o0,o0]] [Qb w3.heap.size,Qb w3.heap.size,Qb w3.heap.size,Qb w3.heap.size,Qb w3.heap.size,Qb z,Wr ((lw3.End:Int) - c.Kernel) (lw3.End - c.Kernel)] [(2,i6 (lw3.End - c.Kernel)),(3,i6 0)] ⟨w,w3.heap.size+1,[(Ak w),(bk z (Ai.arr c) 26),(mid (z+1) w3),(.blk w3.heap.size (.cells (Ha.arr lw3) 58 (0,0)) true)]⟩ rfl ⟨rfl,rfl,rfl,rfl,rfl,rfl,BP,Ae⟩ ?_
  refine Az [] [] (.tuple #[i6 (lw3.End - c.Kernel),i6 0]) Ae ?_
  intro w4 hw4
  refine⟨?_,AB hw4⟩
  unfold JC errOf;rw[if_pos hok2,if_pos hok2];rw[←hEw3]
 refine(rof_no w1 c (hc.ext (hw1.ext rfl) (fun _ h=>h)) (Bool.eq_false_iff.2 hok2)).mono ?_
 rintro e w5 ⟨rfl,hkw5⟩
 have hnw5:z+1≤w5.heap.size:=Ef hw1 hkw5
 refine⟨_,_,rfl,hw1.keeps hkw5, ?_⟩
 refine EI 13 0 [1] [[o0,o0,o0,o0,(an 4 2),o0],[o0,o0],[o0,o0,o0]] [Qb w5.heap.size,Qb w5.heap.size,Qb w5.heap.size,Qb w5.heap.size] [(2,i6 0),(3,i6 150)] ⟨w,w5.heap.size+1,[(Ak w),(bk z (Ai.arr c) 26),(.blk w5.heap.size (.cells #[i6 0,.slice none 0 0,.slice none 0 0,i6 0] 58 (0,0)) true)]⟩ rfl ⟨rfl,rfl,rfl,rfl,Ae⟩ ?_
 refine Az [] [] (.tuple #[i6 0,i6 150]) Ae ?_
 intro w6 hw6
 refine⟨?_,AB hw6⟩
 unfold JC errOf;rw[if_neg hok2,if_neg hok2]
end Go.Proofs.YtlccogilgegnfaaDoor.Ly
namespace Go.Proofs.YtlccogilgegnfaaDoor.Ad
open Go Go.Proofs.YtlccogilgegnfaaDoor.Eng Go.Proofs.YtlccogilgegnfaaDoor.Mem Go.Proofs.YtlccogilgegnfaaDoor.Ly
set_option linter.unusedSimpArgs false
set_option linter.unusedVariables false
set_option maxRecDepth 100000
def O8(x:Be):Bool:=win x.Kind 1 2&&win x.Words 1 16&&Eb x
theorem XF{c:Ai}{h:Nat}{x:Be}(e0:LD c h=x)(hA:O8 x=false):Dp c h=⟨415,⟨(h:Int), -1⟩⟩:=by
 unfold Dp;rw[e0,show(win x.Kind 1 2&&win x.Words 1 16&&Eb x)=false from hA];simp[AY,Af,AQ]
theorem chan_b{c:Ai}{h:Nat}{x:Be}(e0:LD c h=x)(hA:O8 x=true)(hS:¬ (IP c h:Int)=1):Dp c h=⟨416,⟨(h:Int), -1⟩⟩:=by
 unfold Dp;rw[e0,show(win x.Kind 1 2&&win x.Words 1 16&&Eb x)=true from hA,decide_eq_false (by omega)];simp[AY,Af,AQ]
theorem chan_c{c:Ai}{h:Nat}{x:Be}(e0:LD c h=x)(hA:O8 x=true)(hS:(IP c h:Int)=1)(hD:win (Bz c h:Nat) 1 (A8 x)=false):Dp c h=⟨417,⟨(h:Int), -1⟩⟩:=by
 unfold Dp;rw[e0,show(win x.Kind 1 2&&win x.Words 1 16&&Eb x)=true from hA,decide_eq_true (by omega),hD];simp[AY,Af,AQ]
theorem chan_d{c:Ai}{h:Nat}{x:Be}(e0:LD c h=x)(hA:O8 x=true)(hS:(IP c h:Int)=1)(hD:win (Bz c h:Nat) 1 (A8 x)=true):Dp c h=AQ:=by
 unfold Dp;rw[e0,show(win x.Kind 1 2&&win x.Words 1 16&&Eb x)=true from hA,decide_eq_true (by omega),hD];simp[AY,Af,AQ]
section
variable (z:Nat)
abbrev Rk:=(5,pt (z+1))
end
theorem ZaN(w:World)(c:Ai)(hc:Ai.ok Any w c)(h:Nat)(hh:h<c.Aj.xs.length)(hm:c.Aa.xs.length≤1024)(hq:∀ p,p<c.Aa.xs.length→(gd c.Aa.xs p).Ap.xs.length≤1024):Calls Tryd.prog 57 #[.agg (Ai.arr c),.int .i64 (h:Int)] w fun e w'=>e = .returned (.int .i64 (Dp c h).e)∧Ce (fun _=>False) w w':=by
 obtain⟨z,hz⟩:∃ z,z=w.heap.size:=⟨_,rfl⟩
 refine Bf (args:=[.agg (Ai.arr c),Ac h]) 68 ⟨w,z,[(Ak w)]⟩ Tryd.func57 rfl (by kernel_rfl) (by kernel_rfl) (Ed hz) ?_
 have hpl:=hc.Aj.1.len
 refine Di [0,1] [(0,.agg (Ai.arr c)),(1,Ac h)] ?_
 refine q_c 5 0 [] [[o0,o0]] [] [(1,Ac h),(2,pt z)] ⟨w,z+1,[(Ak w),(bk z (Ai.arr c) 26)]⟩ rfl Ae ?_
 obtain⟨b1,o2,ha3,hF5,hc4⟩:=(hc.Aj).1.all (show 0<c.Aj.xs.length by omega)
 replace ha3:c.Aj.a=some ⟨b1,o2,none⟩:=ha3
 have hc6:=hc4 h (show h<c.Aj.xs.length by omega)
 have he7:=(hc.Aj).2 h (show h<c.Aj.xs.length by omega)
 obtain⟨y8,hy8⟩:∃ y_,y_=gd c.Aj.xs h:=⟨_,rfl⟩
 rw[←hy8]at he7 hc6
 have e0:LD c h=y8:=hy8.symm
 refine q_c 4 0 [] [[o0,(EM 1 b1 o2 c.Aj),o0,(oi h),(ol 0 (Be.arr y8)),o0,(an 3 2)]] [Qb z,Ej b1 o2 c.Aj,Dc h,h<c.Aj.xs.length,BM,GN w b1 (o2+h*3) (Be.arr y8),Qb (z+1),Qb (z+1),Qb (z+1)] [(1,Ac h),(2,pt z),(Rk z)] ⟨w,z+2,[(Ak w),(bk z (Ai.arr c) 26),(bk (z+1) (Be.arr y8) 123)]⟩ rfl ⟨rfl,Eg ha3,rfl,(by omega),rfl,Em hc6,rfl,rfl,rfl,Ae⟩ ?_
 by_cases h9:(y8.Kind:Int)=2
 ·refine Au 6 10 [] [[o0,(a1 2),oT,o0],[o0,o0,o0,o0,o0,o0,(a1 2)]] [Qb (z+1),ET y8.Kind 2,Qb (z+1)] [(1,Ac h),(2,pt z),(Rk z),(6,.bool true),(24,.bool false),(26,i6 y8.Words)] rfl ⟨rfl,et,rfl,Ae⟩ ?_
  refine Ba 79 #[i6 y8.Words,i6 1,i6 16] (some 27) (.bool (win y8.Words 1 16)) (fun w10 hw10=>Gj w10 y8.Words 1 16) (fun n11 (hn12:z+2≤n11) => ?_)
  refine Dh [1,2,5,6,24,27] [(1,Ac h),(2,pt z),(Rk z),(6,.bool true),(24,.bool false),(27,.bool (win y8.Words 1 16))] ?_
  by_cases h13:(win y8.Words 1 16)=true
  ·have hd14:=Dz h13
   refine AZ 8 4 [0] [[(ov (.bool false)),o0],[o0,o0,o0,(a1 2)]] [Value.bool (!(win y8.Words 1 16))=Value.bool false,Qb (z+1)] [(1,Ac h),(2,pt z),(Rk z),(6,.bool true),(31,.bool true),(33,i6 y8.Dy)] rfl ⟨by simp[h13],rfl,Ae⟩ ?_
   refine Ba 79 #[i6 y8.Dy,i6 1,i6 8] (some 34) (.bool (win y8.Dy 1 8)) (fun w15 hw15=>Gj w15 y8.Dy 1 8) (fun n16 (hn17:n11≤n16) => ?_)
   refine Dh [1,2,5,6,31,34] [(1,Ac h),(2,pt z),(Rk z),(6,.bool true),(31,.bool true),(34,.bool (win y8.Dy 1 8))] ?_
   by_cases h18:(win y8.Dy 1 8)=true
   ·have hd19:=Dz h18
    refine AZ 7 2 [0] [[(ov (.bool false)),o0,o0,o0,o0,o0,o0,o0],[(an 7 1),o0]] [Value.bool (!(win y8.Dy 1 8))=Value.bool false,Qb z,Qb z,Qb z,Qb z,Qb z,Qb z,Qb z] [(6,.bool true),(47,.agg (Ai.arr c)),(48,Ac h)] rfl ⟨by simp[h18],rfl,rfl,rfl,rfl,rfl,rfl,rfl,Ae⟩ ?_
    refine Ba 83 #[.agg (Ai.arr c),Ac h] (some 49) (.tuple #[i6 ((IP c (h:Int):Nat):Int),i6 ((Bz c (h:Int):Nat):Int)]) (fun w20 hw20=>NW w20 c (hc.ext (hw20.ext rfl) (fun _ h=>h)) (h:Int) hm hq) (fun n21 (hn22:n16≤n21) => ?_)
    refine AZ 5 0 [] [[o0,o0,o0,o0,o0]] [] [(6,.bool true),(7,i6 ((IP c (h:Int):Nat):Int)),(8,i6 ((Bz c (h:Int):Nat):Int))] rfl Ae ?_
    by_cases h23:(((IP c (h:Int):Nat):Int):Int)=1
    ·refine Au 6 0 [0] [[o0,oF,o0]] [NF ((IP c (h:Int):Nat):Int) 1] [(6,.bool true),(8,i6 ((Bz c (h:Int):Nat):Int)),(52,.bool false)] rfl ⟨nf,Ae⟩ ?_
     by_cases h24:(((Bz c (h:Int):Nat):Int):Int)=1
     ·refine Au 16 0 [0,0] [[o0,o0,o0,oF,o0,o0],[o0,o0,o0,o0,o0],[o0]] [NF ((Bz c (h:Int):Nat):Int) 1] [(4,i6 0)] rfl ⟨nf,Ae⟩ ?_
      refine Az [] [] (i6 0) Ae ?_
      intro w25 hw25
      have hk9:win y8.Kind 1 2=true:=(by unfold win;simp;omega)
      have hw9:win y8.Words 1 16=true:=h13
      have hd9:Eb y8=true:=(by unfold Eb;rw[if_pos h9];exact h18)
      have hm9:A8 y8=1:=(by unfold A8;rw[if_pos h9])
      have hq:Dp c h=_:=chan_d e0 (by unfold O8;simp[hk9,hw9,hd9]) h23 (by rw[hm9];first | assumption | (unfold win;simp;omega) | simpa using h24)
      exact⟨congrArg (fun t:Am=>Ending.returned (i6 t.e)) hq.symm,AB hw25⟩
     refine Au 12 0 [1,1] [[o0,o0,o0,oT,o0,o0],[o0]] [NT ((Bz c (h:Int):Nat):Int) 1] [(4,i6 417)] rfl ⟨nt,Ae⟩ ?_
     refine Az [] [] (i6 417) Ae ?_
     intro w26 hw26
     have hk9:win y8.Kind 1 2=true:=(by unfold win;simp;omega)
     have hw9:win y8.Words 1 16=true:=h13
     have hd9:Eb y8=true:=(by unfold Eb;rw[if_pos h9];exact h18)
     have hm9:A8 y8=1:=(by unfold A8;rw[if_pos h9])
     have hq:Dp c h=_:=chan_c e0 (by unfold O8;simp[hk9,hw9,hd9]) h23 (by rw[hm9];first | assumption | (unfold win;simp;omega) | simpa using h24)
     exact⟨congrArg (fun t:Am=>Ending.returned (i6 t.e)) hq.symm,AB hw26⟩
    refine Au 9 0 [1] [[o0,oT,o0],[o0]] [NT ((IP c (h:Int):Nat):Int) 1] [(4,i6 416)] rfl ⟨nt,Ae⟩ ?_
    refine Az [] [] (i6 416) Ae ?_
    intro w27 hw27
    have hk9:win y8.Kind 1 2=true:=(by unfold win;simp;omega)
    have hw9:win y8.Words 1 16=true:=h13
    have hd9:Eb y8=true:=(by unfold Eb;rw[if_pos h9];exact h18)
    have hq:Dp c h=_:=chan_b e0 (by unfold O8;simp[hk9,hw9,hd9]) h23
    exact⟨congrArg (fun t:Am=>Ending.returned (i6 t.e)) hq.symm,AB hw27⟩
   have hd28:=FI h18
   refine AZ 8 0 [1] [[(ov (.bool true)),o0,o0,o0],[o0]] [Value.bool (!(win y8.Dy 1 8))=Value.bool true] [(4,i6 415)] rfl ⟨by simp[h18],Ae⟩ ?_
   refine Az [] [] (i6 415) Ae ?_
   intro w29 hw29
   have hk9:win y8.Kind 1 2=true:=(by unfold win;simp;omega)
   have hw9:win y8.Words 1 16=true:=h13
   have hd9:Eb y8=false:=(by unfold Eb;rw[if_pos h9];simpa using h18)
   have hq:Dp c h=_:=XF e0 (by unfold O8;simp[hk9,hw9,hd9])
   exact⟨congrArg (fun t:Am=>Ending.returned (i6 t.e)) hq.symm,AB hw29⟩
  have hd30:=FI h13
  refine AZ 8 0 [1] [[(ov (.bool true)),o0],[o0]] [Value.bool (!(win y8.Words 1 16))=Value.bool true] [(4,i6 415)] rfl ⟨by simp[h13],Ae⟩ ?_
  refine Az [] [] (i6 415) Ae ?_
  intro w31 hw31
  have hk9:win y8.Kind 1 2=true:=(by unfold win;simp;omega)
  have hw9:win y8.Words 1 16=false:=(by simpa using h13)
  have hq:Dp c h=_:=XF e0 (by unfold O8;simp[hk9,hw9])
  exact⟨congrArg (fun t:Am=>Ending.returned (i6 t.e)) hq.symm,AB hw31⟩
 refine Au 5 0 [] [[o0,(a1 2),oF,o0]] [Qb (z+1),EF y8.Kind 2] [(1,Ac h),(2,pt z),(Rk z),(6,.bool false)] rfl ⟨rfl,ef,Ae⟩ ?_
 by_cases h32:(y8.Kind:Int)=1
 ·refine Au 1 10 [] [[o0,o0,o0,o0,(a1 2),oF,o0,o0,o0,(a1 2)]] [Qb (z+1),NF y8.Kind 1,Qb (z+1)] [(1,Ac h),(2,pt z),(Rk z),(6,.bool false),(24,.bool false),(26,i6 y8.Words)] rfl ⟨rfl,nf,rfl,Ae⟩ ?_
  refine Ba 79 #[i6 y8.Words,i6 1,i6 16] (some 27) (.bool (win y8.Words 1 16)) (fun w33 hw33=>Gj w33 y8.Words 1 16) (fun n34 (hn35:z+2≤n34) => ?_)
  refine Dh [1,2,5,6,24,27] [(1,Ac h),(2,pt z),(Rk z),(6,.bool false),(24,.bool false),(27,.bool (win y8.Words 1 16))] ?_
  by_cases h36:(win y8.Words 1 16)=true
  ·have hd37:=Dz h36
   refine AZ 7 0 [0] [[(ov (.bool false)),o0]] [Value.bool (!(win y8.Words 1 16))=Value.bool false] [(1,Ac h),(2,pt z),(Rk z),(6,.bool false),(29,.bool false)] rfl ⟨by simp[h36],Ae⟩ ?_
   by_cases h38:(y8.Dy:Int)=0
   ·refine Au 8 2 [0] [[o0,o0,o0,o0,o0,o0,o0,o0,(a1 2),oF,o0,o0],[(an 7 1),o0]] [Qb (z+1),NF y8.Dy 0,Qb z,Qb z,Qb z,Qb z,Qb z,Qb z,Qb z] [(6,.bool false),(47,.agg (Ai.arr c)),(48,Ac h)] rfl ⟨rfl,nf,rfl,rfl,rfl,rfl,rfl,rfl,rfl,Ae⟩ ?_
    refine Ba 83 #[.agg (Ai.arr c),Ac h] (some 49) (.tuple #[i6 ((IP c (h:Int):Nat):Int),i6 ((Bz c (h:Int):Nat):Int)]) (fun w39 hw39=>NW w39 c (hc.ext (hw39.ext rfl) (fun _ h=>h)) (h:Int) hm hq) (fun n40 (hn41:n34≤n40) => ?_)
    refine AZ 5 0 [] [[o0,o0,o0,o0,o0]] [] [(6,.bool false),(7,i6 ((IP c (h:Int):Nat):Int)),(8,i6 ((Bz c (h:Int):Nat):Int))] rfl Ae ?_
    by_cases h42:(((IP c (h:Int):Nat):Int):Int)=1
    ·refine Au 11 4 [0,0] [[o0,oF,o0],[o0,o0,o0,o0],[o0,o0,o0,o0]] [NF ((IP c (h:Int):Nat):Int) 1] [(63,.bool true),(64,i6 ((Bz c (h:Int):Nat):Int))] rfl ⟨nf,Ae⟩ ?_
     refine Ba 79 #[i6 ((Bz c (h:Int):Nat):Int),i6 1,i6 4] (some 65) (.bool (win ((Bz c (h:Int):Nat):Int) 1 4)) (fun w43 hw43=>Gj w43 ((Bz c (h:Int):Nat):Int) 1 4) (fun n44 (hn45:n40≤n44) => ?_)
     refine Dh [63,65] [(63,.bool true),(65,.bool (win ((Bz c (h:Int):Nat):Int) 1 4))] ?_
     by_cases h46:(win ((Bz c (h:Int):Nat):Int) 1 4)=true
     ·have hd47:=Dz h46
      refine AZ 11 0 [0] [[(ov (.bool false)),o0,o0],[o0]] [Value.bool (!(win ((Bz c (h:Int):Nat):Int) 1 4))=Value.bool false] [(4,i6 0)] rfl ⟨by simp[h46],Ae⟩ ?_
      refine Az [] [] (i6 0) Ae ?_
      intro w48 hw48
      have hk9:win y8.Kind 1 2=true:=(by unfold win;simp;omega)
      have hw9:win y8.Words 1 16=true:=h36
      have hd9:Eb y8=true:=(by unfold Eb;rw[if_neg h9];exact decide_eq_true h38)
      have hm9:A8 y8=4:=(by unfold A8;rw[if_neg h9])
      have hq:Dp c h=_:=chan_d e0 (by unfold O8;simp[hk9,hw9,hd9]) h42 (by rw[hm9];first | assumption | (unfold win;simp;omega) | simpa using h46)
      exact⟨congrArg (fun t:Am=>Ending.returned (i6 t.e)) hq.symm,AB hw48⟩
     have hd49:=FI h46
     refine AZ 8 0 [1] [[(ov (.bool true)),o0,o0],[o0]] [Value.bool (!(win ((Bz c (h:Int):Nat):Int) 1 4))=Value.bool true] [(4,i6 417)] rfl ⟨by simp[h46],Ae⟩ ?_
     refine Az [] [] (i6 417) Ae ?_
     intro w50 hw50
     have hk9:win y8.Kind 1 2=true:=(by unfold win;simp;omega)
     have hw9:win y8.Words 1 16=true:=h36
     have hd9:Eb y8=true:=(by unfold Eb;rw[if_neg h9];exact decide_eq_true h38)
     have hm9:A8 y8=4:=(by unfold A8;rw[if_neg h9])
     have hq:Dp c h=_:=chan_c e0 (by unfold O8;simp[hk9,hw9,hd9]) h42 (by rw[hm9];first | assumption | (unfold win;simp;omega) | simpa using h46)
     exact⟨congrArg (fun t:Am=>Ending.returned (i6 t.e)) hq.symm,AB hw50⟩
    refine Au 9 0 [1] [[o0,oT,o0],[o0]] [NT ((IP c (h:Int):Nat):Int) 1] [(4,i6 416)] rfl ⟨nt,Ae⟩ ?_
    refine Az [] [] (i6 416) Ae ?_
    intro w51 hw51
    have hk9:win y8.Kind 1 2=true:=(by unfold win;simp;omega)
    have hw9:win y8.Words 1 16=true:=h36
    have hd9:Eb y8=true:=(by unfold Eb;rw[if_neg h9];exact decide_eq_true h38)
    have hq:Dp c h=_:=chan_b e0 (by unfold O8;simp[hk9,hw9,hd9]) h42
    exact⟨congrArg (fun t:Am=>Ending.returned (i6 t.e)) hq.symm,AB hw51⟩
   refine Au 9 0 [1] [[o0,o0,o0,o0,o0,o0,o0,o0,(a1 2),oT,o0,o0],[o0]] [Qb (z+1),NT y8.Dy 0] [(4,i6 415)] rfl ⟨rfl,nt,Ae⟩ ?_
   refine Az [] [] (i6 415) Ae ?_
   intro w52 hw52
   have hk9:win y8.Kind 1 2=true:=(by unfold win;simp;omega)
   have hw9:win y8.Words 1 16=true:=h36
   have hd9:Eb y8=false:=(by unfold Eb;rw[if_neg h9];exact decide_eq_false h38)
   have hq:Dp c h=_:=XF e0 (by unfold O8;simp[hk9,hw9,hd9])
   exact⟨congrArg (fun t:Am=>Ending.returned (i6 t.e)) hq.symm,AB hw52⟩
  have hd53:=FI h36
  refine AZ 8 0 [1] [[(ov (.bool true)),o0],[o0]] [Value.bool (!(win y8.Words 1 16))=Value.bool true] [(4,i6 415)] rfl ⟨by simp[h36],Ae⟩ ?_
  refine Az [] [] (i6 415) Ae ?_
  intro w54 hw54
  have hk9:win y8.Kind 1 2=true:=(by unfold win;simp;omega)
  have hw9:win y8.Words 1 16=false:=(by simpa using h36)
  have hq:Dp c h=_:=XF e0 (by unfold O8;simp[hk9,hw9])
  exact⟨congrArg (fun t:Am=>Ending.returned (i6 t.e)) hq.symm,AB hw54⟩
 refine Au 9 0 [1] [[o0,o0,o0,o0,(a1 2),oT,o0,o0,o0],[o0]] [Qb (z+1),NT y8.Kind 1] [(4,i6 415)] rfl ⟨rfl,nt,Ae⟩ ?_
 refine Az [] [] (i6 415) Ae ?_
 intro w55 hw55
 have hk9:win y8.Kind 1 2=false:=(by unfold win;simp;omega)
 have hq:Dp c h=_:=XF e0 (by unfold O8;simp[hk9])
 exact⟨congrArg (fun t:Am=>Ending.returned (i6 t.e)) hq.symm,AB hw55⟩
section
variable (n15 k:Nat)(n z:Nat)(y24:Fq)(c:Ai)(w:World)
abbrev qwuf_0:=bk (n15+1) #[(Ac k),Ac n] 108
abbrev qwuf_1:=bk (z+1) #[(Ac k),Ac n] 108
abbrev V5:=bk (z+1) #[i6 0,i6 0] 108
abbrev qwuf_3:=bk n15 (Fq.arr y24) 158
abbrev Ry:=bk z (Ai.arr c) 26
abbrev Px:=(9,pt (n15+1))
abbrev FT:=(5,pt (z+1))
abbrev Mc:=(6,i6 (sumW (DU c k).xs n))
abbrev PG:=(8,pt n15)
abbrev QY:=[(Ak w),(Ry z c),(qwuf_1 k n z),(qwuf_3 n15 y24),(qwuf_0 n15 k n)]
abbrev Vu:=[(Ak w),(Ry z c),(V5 z),(qwuf_3 n15 y24),(qwuf_0 n15 k n)]
end
theorem rcore_calls(w:World)(c:Ai)(hc:Ai.ok Any w c)(k:Nat)(hk:k<c.Bc.xs.length):Calls Tryd.prog 59 #[.agg (Ai.arr c),.int .i64 (k:Int)] w fun e w'=>e = .returned (.tuple #[.int .i64 (Ea c k).e,.agg #[.int .i64 (Ea c k).Ag.First,.int .i64 (Ea c k).Ag.Second]])∧Ce (fun _=>False) w w':=by
 obtain⟨z,hz⟩:∃ z,z=w.heap.size:=⟨_,rfl⟩
 refine Bf (args:=[.agg (Ai.arr c),Ac k]) 84 ⟨w,z,[(Ak w)]⟩ Tryd.func59 rfl (by kernel_rfl) (by kernel_rfl) (Ed hz) ?_
 have hpl:=hc.Bc.1.len;have hpp:=hc.Aa.1.len
 refine Di [0,1] [(0,.agg (Ai.arr c)),(1,Ac k)] ?_
 refine q_c 6 0 [] [[o0,o0,o0]] [] [(1,Ac k),(2,pt z),(FT z)] ⟨w,z+2,[(Ak w),(Ry z c),(V5 z)]⟩ rfl Ae ?_
 obtain⟨b1,o2,ha3,hF5,hc4⟩:=(hc.Bc).1.all (show 0<c.Bc.xs.length by omega)
 replace ha3:c.Bc.a=some ⟨b1,o2,none⟩:=ha3
 have hc6:=hc4 k (show k<c.Bc.xs.length by omega)
 have he7:=(hc.Bc).2 k (show k<c.Bc.xs.length by omega)
 obtain⟨y8,hy8⟩:∃ y_,y_=gd c.Bc.xs k:=⟨_,rfl⟩
 rw[←hy8]at he7 hc6
 have hley8:y8.xs.length=(gd c.Bc.xs k).xs.length:=(by rw[hy8]);have hyly8:=he7.1.len;have eCy8:DU c k=y8:=hy8.symm
 refine Au 1 6 [] [[o0,(EM 1 b1 o2 c.Bc),o0,(oi k),(oa [.via 0 (.slice y8.a y8.xs.length y8.cap)]),o0]] [Qb z,Ej b1 o2 c.Bc,Dc k,k<c.Bc.xs.length,BM,Old w b1 (o2+k) (.slice y8.a y8.xs.length y8.cap)] [(1,Ac k),(2,pt z),(FT z),(15,Ac y8.xs.length)] rfl ⟨rfl,Eg ha3,rfl,(by omega),rfl,Aw (hc6 0 _ rfl),Ae⟩ ?_
 refine Ba 79 #[(Ac y8.xs.length),i6 1,i6 16] (some 16) (.bool (win (y8.xs.length:Int) 1 16)) (fun w9 hw9=>Gj w9 (y8.xs.length:Int) 1 16) (fun n10 (hn11:z+2≤n10) => ?_)
 refine Dh [1,2,5,16] [(1,Ac k),(2,pt z),(FT z),(16,.bool (win (y8.xs.length:Int) 1 16))] ?_
 by_cases h12:(win (y8.xs.length:Int) 1 16)=true
 ·have hd13:=Dz h12
  refine AZ 15 0 [0] [[(ov (.bool false))],[o0],[o0]] [Value.bool (!(win (y8.xs.length:Int) 1 16))=Value.bool false] [(1,Ac k),(2,pt z),(FT z),(6,i6 0),(7,i6 0)] rfl ⟨by simp[h12],Ae⟩ ?_
  refine D8 (fun m a w'=>∃ (n15:Nat) (n:Nat),m=(gd c.Bc.xs k).xs.length - n∧n10≤n15∧(n≤(gd c.Bc.xs k).xs.length)∧(∀ a,a<n→F6 c k a=AQ)∧(0≤sumW (DU c k).xs n∧sumW (DU c k).xs n≤n*32768)∧St 84 [(1,Ac k),(2,pt z),(FT z),(Mc k n c),(7,Ac n)] [] ⟨w,n15,[(Ak w),(Ry z c),(V5 z)]⟩ a w') ((gd c.Bc.xs k).xs.length - 0) ?_ ?_
  ·intro a w' hs;exact⟨n10,0,rfl,Nat.le_refl _,Nat.zero_le _,fun i hi=>absurd hi (Nat.not_lt_zero i),by simp[sumW],hs⟩
  rintro m a w' ⟨n15,n,rfl,hn14,hkn,hf,hsu,hs⟩
  refine(?_:G Tryd.prog 84 [(1,Ac k),(2,pt z),(FT z),(Mc k n c),(7,Ac n)] [] ⟨w,n15,[(Ak w),(Ry z c),(V5 z)]⟩ _ _ _) a w' hs
  clear hs a w'
  have hwc:=Dz h12
  refine CW <| CW ?_
  by_cases h16:(n:Int)<(y8.xs.length:Int)
  ·refine Au 9 0 [1] [[o0,o0,(EM 1 b1 o2 c.Bc),o0,(oi k),(oa [.via 0 (.slice y8.a y8.xs.length y8.cap)]),o0,oT]] [Qb z,Ej b1 o2 c.Bc,Dc k,k<c.Bc.xs.length,BM,Old w b1 (o2+k) (.slice y8.a y8.xs.length y8.cap),BT ((n:Int)<(y8.xs.length:Int))] [(1,Ac k),(2,pt z),(FT z),(Mc k n c),(7,Ac n),(27,.bool true)] rfl ⟨rfl,Eg ha3,rfl,(by omega),rfl,Aw (hc6 0 _ rfl),bt,Ae⟩ ?_
   obtain⟨b17,o18,ha19,hF21,hc20⟩:=(he7).1.all (show 0<y8.xs.length by omega)
   replace ha19:y8.a=some ⟨b17,o18,none⟩:=ha19
   have hc22:=hc20 n (show n<y8.xs.length by omega)
   have he23:=(he7).2 n (show n<y8.xs.length by omega)
   obtain⟨y24,hy24⟩:∃ y_,y_=gd y8.xs n:=⟨_,rfl⟩
   rw[←hy24]at he23 hc22
   have e0y24:gd (DU c k).xs n=y24:=(by rw[hy24,eCy8])
   refine q_c 11 6 [] [[o0,(EM 1 b1 o2 c.Bc),o0,(oi k),⟨.auto [.via 0 (.slice y8.a y8.xs.length y8.cap)],some (.slice (some ⟨b17,o18,none⟩) y8.xs.length y8.cap)⟩,o0,(oi n),(ol 0 (Fq.arr y24)),o0,(an 3 3)],[o0,o0,o0,o0,(an 2 4)],[o0,(a1 3),o0,(a1 1),o0,(ov (i6 ((c.Aa.xs.length:Int) - 1)))]] [Qb z,Ej b1 o2 c.Bc,Dc k,k<c.Bc.xs.length,BM,Old w b1 (o2+k) (.slice y8.a y8.xs.length y8.cap),Ej b17 o18 y8,Dc n,n<y8.xs.length,BM,GN w b17 (o18+n*3) (Fq.arr y24),Qb n15,Qb n15,Qb n15,Qb (n15+1),Qb (n15+1),Qb n15,Qb z,Wr ((c.Aa.xs.length:Int) - 1) ((c.Aa.xs.length:Int) - 1)] [(1,Ac k),(2,pt z),(FT z),(Mc k n c),(7,Ac n),(PG n15),(Px n15),(43,i6 y24.Partition),(47,i6 ((c.Aa.xs.length:Int) - 1))] ⟨w,n15+2,(Vu n15 k n z y24 c w)⟩ rfl ⟨rfl,Eg ha3,rfl,(by omega),rfl,Aw (hc6 0 _ rfl),Eg ha19,rfl,(by omega),rfl,Em hc22,rfl,rfl,rfl,rfl,rfl,rfl,rfl,BP,Ae⟩ ?_
   refine Ba 79 #[i6 y24.Partition,i6 (-1),i6 ((c.Aa.xs.length:Int) - 1)] (some 48) (.bool (win y24.Partition (-1) ((c.Aa.xs.length:Int) - 1))) (fun w25 hw25=>Gj w25 y24.Partition (-1) ((c.Aa.xs.length:Int) - 1)) (fun n26 (hn27:n15+2≤n26) => ?_)
   refine Dh [1,2,5,6,7,8,9,48] [(1,Ac k),(2,pt z),(FT z),(Mc k n c),(7,Ac n),(PG n15),(Px n15),(48,.bool (win y24.Partition (-1) ((c.Aa.xs.length:Int) - 1)))] ?_
   by_cases h28:(win y24.Partition (-1) ((c.Aa.xs.length:Int) - 1))=true
   ·have hd29:=Dz h28
    refine AZ 0 4 [] [[(ov (.bool false)),o0,o0,(a1 3)]] [Value.bool (!(win y24.Partition (-1) ((c.Aa.xs.length:Int) - 1)))=Value.bool false,Qb n15] [(1,Ac k),(2,pt z),(FT z),(Mc k n c),(7,Ac n),(PG n15),(Px n15),(50,.bool false),(52,i6 y24.BN)] rfl ⟨by simp[h28],rfl,Ae⟩ ?_
    refine Ba 79 #[i6 y24.BN,i6 1,i6 16384] (some 53) (.bool (win y24.BN 1 16384)) (fun w30 hw30=>Gj w30 y24.BN 1 16384) (fun n31 (hn32:n26≤n31) => ?_)
    refine Dh [1,2,5,6,7,8,9,50,53] [(1,Ac k),(2,pt z),(FT z),(Mc k n c),(7,Ac n),(PG n15),(Px n15),(50,.bool false),(53,.bool (win y24.BN 1 16384))] ?_
    by_cases h33:(win y24.BN 1 16384)=true
    ·have hd34:=Dz h33
     refine AZ 5 2 [0] [[(ov (.bool false)),o0,o0],[o0,(a1 3)]] [Value.bool (!(win y24.BN 1 16384))=Value.bool false,Qb n15] [(1,Ac k),(2,pt z),(FT z),(Mc k n c),(7,Ac n),(PG n15),(Px n15),(59,i6 y24.AX)] rfl ⟨by simp[h33],rfl,Ae⟩ ?_
     refine Ba 79 #[i6 y24.AX,i6 82,i6 16384] (some 60) (.bool (win y24.AX 82 16384)) (fun w35 hw35=>Gj w35 y24.AX 82 16384) (fun n36 (hn37:n31≤n36) => ?_)
     refine Dh [1,2,5,6,7,8,9,60] [(1,Ac k),(2,pt z),(FT z),(Mc k n c),(7,Ac n),(PG n15),(Px n15),(60,.bool (win y24.AX 82 16384))] ?_
     by_cases h38:(win y24.AX 82 16384)=true
     ·have hd39:=Dz h38
      refine AZ 5 4 [0] [[(ov (.bool false)),o0],[(an 7 1),o0,o0,(a1 3)]] [Value.bool (!(win y24.AX 82 16384))=Value.bool false,Qb z,Qb z,Qb z,Qb z,Qb z,Qb z,Qb z,Qb n15] [(1,Ac k),(2,pt z),(FT z),(Mc k n c),(7,Ac n),(PG n15),(Px n15),(64,.agg (Ai.arr c)),(65,Ac k),(67,i6 y24.Partition)] rfl ⟨by simp[h38],rfl,rfl,rfl,rfl,rfl,rfl,rfl,rfl,Ae⟩ ?_
      refine Ba 84 #[.agg (Ai.arr c),Ac k,i6 y24.Partition] (some 68) (.bool (Ip c k y24.Partition)) (fun w40 hw40=>rsplit_calls w40 c (hc.ext (hw40.ext rfl) (fun _ h=>h)) k hk y24.Partition (by have hpw:=Dz h28;omega)) (fun n41 (hn42:n36≤n41) => ?_)
      refine AZ 2 0 [] [[o0]] [] [(1,Ac k),(2,pt z),(FT z),(Mc k n c),(7,Ac n),(PG n15),(Px n15),(63,.bool (Ip c k y24.Partition))] rfl Ae ?_
      by_cases h43:(Ip c k y24.Partition)=true
      ·refine g_true ?_ (congrArg Value.bool h43)
       refine CW <| DZ 2 [0,1,2,3,4] (Vu n15 k n z y24 c w) rfl rfl ?_
       refine Ci [(0,(an 2 4)),(1,o0)] [5,69,4] [Qb (n15+1),Qb (n15+1)] [true,true,false] [(FT z),(69,.agg #[(Ac k),Ac n]),(4,i6 422)] ⟨rfl,rfl,Ae⟩ ?_
       refine Bq 2 ?_
       refine BC (an 2 2) [5,4] [Qb (z+1),Qb (z+1)] [(FT z),(4,i6 422)] ⟨w,n41,(QY n15 k n z y24 c w)⟩ [] ⟨rfl,rfl,Ae⟩ (.inl rfl) ?_
       refine DX 3 [0,1,2,3,4] (QY n15 k n z y24 c w) rfl rfl ?_
       refine CE ?_
       refine BI [5,4] [(FT z),(4,i6 422)] ?_
       refine Gy <| Iu <| Az [.at 2,.at 2] [Qb (z+1),Qb (z+1)] (.tuple #[i6 422,.agg #[(Ac k),Ac n]]) ⟨rfl,rfl,Ae⟩ ?_
       intro w44 hw44
       have hq:Ea c k=⟨422,⟨(k:Int),(n:Int)⟩⟩:=(Wh (by dsimp only[DU];rw[←hley8];exact h12) hf (show n<(gd c.Bc.xs k).xs.length by omega) (by unfold F6 Nk;rw[e0y24];(try simp[AY,Af,AQ,h28,h33,h38,h43]))).trans (by unfold F6 Nk;rw[e0y24];(try simp[AY,Af,AQ,h28,h33,h38,h43]))
       exact⟨congrArg (fun t:Am=>Ending.returned (.tuple #[i6 t.e,.agg #[i6 t.Ag.First,i6 t.Ag.Second]])) hq.symm,AB hw44⟩
      refine Au 10 0 [2] [[o0,o0,(a1 3),o0,(a1 3),(ov (i6 (y24.BN+y24.AX))),(ov (i6 ((sumW (DU c k).xs n)+(y24.BN+y24.AX)))),o0],[o0,(ov (i6 ((n+1:Nat):Int))),o0]] [Value.bool (Ip c k y24.Partition)=Value.bool false,Qb n15,Qb n15,Wr ((y24.BN:Int)+y24.AX) (y24.BN+y24.AX),Wr ((sumW (DU c k).xs n:Int)+(y24.BN+y24.AX)) ((sumW (DU c k).xs n)+(y24.BN+y24.AX)),Wr ((n:Int)+1) (((n+1:Nat):Int))] [(1,Ac k),(2,pt z),(FT z),(6,i6 ((sumW (DU c k).xs n)+(y24.BN+y24.AX))),(7,i6 ((n+1:Nat):Int))] rfl ⟨(congrArg Value.bool (Bool.eq_false_iff.2 h43)),rfl,rfl,BP,BP,BP,Ae⟩ ?_
      refine Cc [0,1,2] [(Ak w),(Ry z c),(V5 z)] rfl rfl ?_
      have hcw:F6 c k n=AQ:=(by unfold F6 Nk;rw[e0y24];simp[AY,Af,AQ,h28,h33,h38,h43])
      have hbd:=TJ hcw
      have eS:=sumW_succ (DU c k).xs n
      rw[e0y24]at hbd eS
      have hss:0≤sumW (DU c k).xs (n+1)∧sumW (DU c k).xs (n+1)≤((n+1:Nat):Int)*32768:=(by rw[eS];omega)
      refine BI [1,2,5,6,7] [(1,Ac k),(2,pt z),(FT z),(6,i6 ((sumW (DU c k).xs n)+(y24.BN+y24.AX))),(7,i6 ((n+1:Nat):Int))] ?_
      refine BR (fun a w' hs=>⟨(gd c.Bc.xs k).xs.length - (n+1),by omega,n41,(n+1),rfl,by omega,by omega,EP hf hcw,hss,(by(try dsimp only[qwuf_0,qwuf_1,V5,qwuf_3,Ry,FT,Mc,QY]at hs ⊢);rw[eS];exact hs)⟩)
     have hd45:=FI h38
     refine AZ 4 0 [1] [[(ov (.bool true)),o0]] [Value.bool (!(win y24.AX 82 16384))=Value.bool true] [(1,Ac k),(2,pt z),(FT z),(Mc k n c),(7,Ac n),(PG n15),(Px n15),(57,.bool true)] rfl ⟨by simp[h38],Ae⟩ ?_
     refine DZ 2 [0,1,2,3,4] (Vu n15 k n z y24 c w) rfl rfl ?_
     refine Ci [(0,(an 2 4)),(1,o0)] [5,62,4] [Qb (n15+1),Qb (n15+1)] [true,true,false] [(FT z),(62,.agg #[(Ac k),Ac n]),(4,i6 420)] ⟨rfl,rfl,Ae⟩ ?_
     refine Bq 2 ?_
     refine BC (an 2 2) [5,4] [Qb (z+1),Qb (z+1)] [(FT z),(4,i6 420)] ⟨w,n36,(QY n15 k n z y24 c w)⟩ [] ⟨rfl,rfl,Ae⟩ (.inl rfl) ?_
     refine DX 3 [0,1,2,3,4] (QY n15 k n z y24 c w) rfl rfl ?_
     refine CE ?_
     refine BI [5,4] [(FT z),(4,i6 420)] ?_
     refine Gy <| Iu <| Az [.at 2,.at 2] [Qb (z+1),Qb (z+1)] (.tuple #[i6 420,.agg #[(Ac k),Ac n]]) ⟨rfl,rfl,Ae⟩ ?_
     intro w46 hw46
     have hq:Ea c k=⟨420,⟨(k:Int),(n:Int)⟩⟩:=(Wh (by dsimp only[DU];rw[←hley8];exact h12) hf (show n<(gd c.Bc.xs k).xs.length by omega) (by unfold F6 Nk;rw[e0y24];(try simp[AY,Af,AQ,h28,h33,h38]))).trans (by unfold F6 Nk;rw[e0y24];(try simp[AY,Af,AQ,h28,h33,h38]))
     exact⟨congrArg (fun t:Am=>Ending.returned (.tuple #[i6 t.e,.agg #[i6 t.Ag.First,i6 t.Ag.Second]])) hq.symm,AB hw46⟩
    have hd47:=FI h33
    refine AZ 4 0 [1] [[(ov (.bool true)),o0,o0]] [Value.bool (!(win y24.BN 1 16384))=Value.bool true] [(1,Ac k),(2,pt z),(FT z),(Mc k n c),(7,Ac n),(PG n15),(Px n15),(41,.bool true)] rfl ⟨by simp[h33],Ae⟩ ?_
    refine DZ 2 [0,1,2,3,4] (Vu n15 k n z y24 c w) rfl rfl ?_
    refine Ci [(0,(an 2 4)),(1,o0)] [5,56,4] [Qb (n15+1),Qb (n15+1)] [true,true,false] [(FT z),(56,.agg #[(Ac k),Ac n]),(4,i6 419)] ⟨rfl,rfl,Ae⟩ ?_
    refine Bq 2 ?_
    refine BC (an 2 2) [5,4] [Qb (z+1),Qb (z+1)] [(FT z),(4,i6 419)] ⟨w,n31,(QY n15 k n z y24 c w)⟩ [] ⟨rfl,rfl,Ae⟩ (.inl rfl) ?_
    refine DX 3 [0,1,2,3,4] (QY n15 k n z y24 c w) rfl rfl ?_
    refine CE ?_
    refine BI [5,4] [(FT z),(4,i6 419)] ?_
    refine Gy <| Iu <| Az [.at 2,.at 2] [Qb (z+1),Qb (z+1)] (.tuple #[i6 419,.agg #[(Ac k),Ac n]]) ⟨rfl,rfl,Ae⟩ ?_
    intro w48 hw48
    have hq:Ea c k=⟨419,⟨(k:Int),(n:Int)⟩⟩:=(Wh (by dsimp only[DU];rw[←hley8];exact h12) hf (show n<(gd c.Bc.xs k).xs.length by omega) (by unfold F6 Nk;rw[e0y24];(try simp[AY,Af,AQ,h28,h33]))).trans (by unfold F6 Nk;rw[e0y24];(try simp[AY,Af,AQ,h28,h33]))
    exact⟨congrArg (fun t:Am=>Ending.returned (.tuple #[i6 t.e,.agg #[i6 t.Ag.First,i6 t.Ag.Second]])) hq.symm,AB hw48⟩
   have hd49:=FI h28
   refine AZ 4 0 [1] [[(ov (.bool true)),o0,o0,o0]] [Value.bool (!(win y24.Partition (-1) ((c.Aa.xs.length:Int) - 1)))=Value.bool true] [(1,Ac k),(2,pt z),(FT z),(Mc k n c),(7,Ac n),(PG n15),(Px n15),(41,.bool true)] rfl ⟨by simp[h28],Ae⟩ ?_
   refine DZ 2 [0,1,2,3,4] (Vu n15 k n z y24 c w) rfl rfl ?_
   refine Ci [(0,(an 2 4)),(1,o0)] [5,56,4] [Qb (n15+1),Qb (n15+1)] [true,true,false] [(FT z),(56,.agg #[(Ac k),Ac n]),(4,i6 419)] ⟨rfl,rfl,Ae⟩ ?_
   refine Bq 2 ?_
   refine BC (an 2 2) [5,4] [Qb (z+1),Qb (z+1)] [(FT z),(4,i6 419)] ⟨w,n26,(QY n15 k n z y24 c w)⟩ [] ⟨rfl,rfl,Ae⟩ (.inl rfl) ?_
   refine DX 3 [0,1,2,3,4] (QY n15 k n z y24 c w) rfl rfl ?_
   refine CE ?_
   refine BI [5,4] [(FT z),(4,i6 419)] ?_
   refine Gy <| Iu <| Az [.at 2,.at 2] [Qb (z+1),Qb (z+1)] (.tuple #[i6 419,.agg #[(Ac k),Ac n]]) ⟨rfl,rfl,Ae⟩ ?_
   intro w50 hw50
   have hq:Ea c k=⟨419,⟨(k:Int),(n:Int)⟩⟩:=(Wh (by dsimp only[DU];rw[←hley8];exact h12) hf (show n<(gd c.Bc.xs k).xs.length by omega) (by unfold F6 Nk;rw[e0y24];(try simp[AY,Af,AQ,h28]))).trans (by unfold F6 Nk;rw[e0y24];(try simp[AY,Af,AQ,h28]))
   exact⟨congrArg (fun t:Am=>Ending.returned (.tuple #[i6 t.e,.agg #[i6 t.Ag.First,i6 t.Ag.Second]])) hq.symm,AB hw50⟩
  refine Au 11 0 [0] [[o0,o0,(EM 1 b1 o2 c.Bc),o0,(oi k),(oa [.via 0 (.slice y8.a y8.xs.length y8.cap)]),o0,oF]] [Qb z,Ej b1 o2 c.Bc,Dc k,k<c.Bc.xs.length,BM,Old w b1 (o2+k) (.slice y8.a y8.xs.length y8.cap),BF ((n:Int)<(y8.xs.length:Int))] [(1,Ac k),(2,pt z),(FT z),(Mc k n c),(7,Ac n),(27,.bool false)] rfl ⟨rfl,Eg ha3,rfl,(by omega),rfl,Aw (hc6 0 _ rfl),bf,Ae⟩ ?_
  by_cases h51:(sumW (DU c k).xs n:Int)=c.Gg
  ·refine Au 11 0 [0] [[o0,o0,(a1 1),oF],[o0,o0,(an 2 2)]] [Qb z,NF (sumW (DU c k).xs n) c.Gg,Qb (z+1),Qb (z+1)] [(FT z),(4,i6 0)] rfl ⟨rfl,nf,rfl,rfl,Ae⟩ ?_
   refine Az [.at 2,.at 2] [Qb (z+1),Qb (z+1)] (.tuple #[i6 0,.agg #[i6 0,i6 0]]) ⟨rfl,rfl,Ae⟩ ?_
   intro w52 hw52
   have hq:Ea c k=⟨0,⟨0,0⟩⟩:=(YG (by dsimp only[DU];rw[←hley8];exact h12) hf (show n=(gd c.Bc.xs k).xs.length by omega)).trans (by first | rw[decide_eq_true (by assumption)];rfl | rw[decide_eq_false (by assumption)];rfl)
   exact⟨congrArg (fun t:Am=>Ending.returned (.tuple #[i6 t.e,.agg #[i6 t.Ag.First,i6 t.Ag.Second]])) hq.symm,AB hw52⟩
  refine Au 6 1 [1] [[o0,o0,(a1 1),oT],[o0]] [Qb z,NT (sumW (DU c k).xs n) c.Gg] [(FT z),(81,Ac k)] rfl ⟨rfl,nt,Ae⟩ ?_
  refine Ba 58 #[(Ac k)] (some 82) (.agg #[(Ac k),i6 (-1)]) (fun w53 hw53=>JW w53 (k:Int)) (fun n54 (hn55:n15≤n54) => ?_)
  refine EI 3 0 [] [[o0,(an 2 2)]] [Qb (z+1),Qb (z+1)] [(FT z),(4,i6 421)] ⟨w,n54,[(Ak w),(Ry z c),(bk (z+1) #[(Ac k),i6 (-1)] 108)]⟩ rfl ⟨rfl,rfl,Ae⟩ ?_
  refine Az [.at 2,.at 2] [Qb (z+1),Qb (z+1)] (.tuple #[i6 421,.agg #[(Ac k),i6 (-1)]]) ⟨rfl,rfl,Ae⟩ ?_
  intro w56 hw56
  have hq:Ea c k=⟨421,⟨(k:Int), -1⟩⟩:=(YG (by dsimp only[DU];rw[←hley8];exact h12) hf (show n=(gd c.Bc.xs k).xs.length by omega)).trans (by first | rw[decide_eq_true (by assumption)];rfl | rw[decide_eq_false (by assumption)];rfl)
  exact⟨congrArg (fun t:Am=>Ending.returned (.tuple #[i6 t.e,.agg #[i6 t.Ag.First,i6 t.Ag.Second]])) hq.symm,AB hw56⟩
 have hd57:=FI h12
 refine AZ 5 1 [1] [[(ov (.bool true))],[o0]] [Value.bool (!(win (y8.xs.length:Int) 1 16))=Value.bool true] [(FT z),(18,Ac k)] rfl ⟨by simp[h12],Ae⟩ ?_
 refine Ba 58 #[(Ac k)] (some 19) (.agg #[(Ac k),i6 (-1)]) (fun w58 hw58=>JW w58 (k:Int)) (fun n59 (hn60:n10≤n59) => ?_)
 refine EI 3 0 [] [[o0,(an 2 2)]] [Qb (z+1),Qb (z+1)] [(FT z),(4,i6 418)] ⟨w,n59,[(Ak w),(Ry z c),(bk (z+1) #[(Ac k),i6 (-1)] 108)]⟩ rfl ⟨rfl,rfl,Ae⟩ ?_
 refine Az [.at 2,.at 2] [Qb (z+1),Qb (z+1)] (.tuple #[i6 418,.agg #[(Ac k),i6 (-1)]]) ⟨rfl,rfl,Ae⟩ ?_
 intro w61 hw61
 have hq:Ea c k=⟨418,⟨(k:Int), -1⟩⟩:=coreQ_a (by dsimp only[DU];rw[←hley8];exact h12)
 exact⟨congrArg (fun t:Am=>Ending.returned (.tuple #[i6 t.e,.agg #[i6 t.Ag.First,i6 t.Ag.Second]])) hq.symm,AB hw61⟩
section
variable (z:Nat)(c:Ai)
abbrev U7:=bk z (Ai.arr c) 26
end
theorem rarea_calls(w:World)(c:Ai)(hc:Ai.ok Any w c)(hFr:1≤c.Frames∧c.Frames≤1024)(hpf:∀ q,q<c.Aa.xs.length→CP c q=AQ):Calls Tryd.prog 60 #[.agg (Ai.arr c)] w fun e w'=>e = .returned (.bool (F9 c))∧Ce (fun _=>False) w w':=by
 obtain⟨z,hz⟩:∃ z,z=w.heap.size:=⟨_,rfl⟩
 refine Bf (args:=[.agg (Ai.arr c)]) 75 ⟨w,z,[(Ak w)]⟩ Tryd.func60 rfl (by kernel_rfl) (by kernel_rfl) (Ed hz) ?_
 have hpl:=hc.Aa.1.len;have hkk:(-9223372036854775808:Int)≤c.Kernel∧c.Kernel≤9223372036854775807:=hc.Kernel;have hrr:(-9223372036854775808:Int)≤c.Room∧c.Room≤9223372036854775807:=hc.Room
 refine Di [0] [(0,.agg (Ai.arr c))] ?_
 refine q_c 7 5 [] [[o0,o0],[o0,(a1 1),o0,(a1 1),(ov (i6 (c.Frames - 1)))]] [Qb z,Qb z,Wr ((c.Frames:Int) - 1) (c.Frames - 1)] [(1,pt z),(9,i6 c.Kernel),(12,i6 (c.Frames - 1))] ⟨w,z+1,[(Ak w),(U7 z c)]⟩ rfl ⟨rfl,rfl,BP,Ae⟩ ?_
 refine Ba 79 #[i6 c.Kernel,i6 0,i6 (c.Frames - 1)] (some 13) (.bool (win c.Kernel 0 (c.Frames - 1))) (fun w1 hw1=>Gj w1 c.Kernel 0 (c.Frames - 1)) (fun n2 (hn3:z+1≤n2) => ?_)
 refine Dh [1,13] [(1,pt z),(13,.bool (win c.Kernel 0 (c.Frames - 1)))] ?_
 by_cases h4:(win c.Kernel 0 (c.Frames - 1))=true
 ·have hd5:=Dz h4
  refine AZ 0 9 [] [[(ov (.bool false)),o0,o0,(a1 1),o0,(a1 1),o0,(a1 1),(ov (i6 (c.Frames - c.Kernel)))]] [Value.bool (!(win c.Kernel 0 (c.Frames - 1)))=Value.bool false,Qb z,Qb z,Qb z,Wr ((c.Frames:Int) - c.Kernel) (c.Frames - c.Kernel)] [(1,pt z),(15,.bool false),(17,i6 c.Room),(22,i6 (c.Frames - c.Kernel))] rfl ⟨by simp[h4],rfl,rfl,rfl,BP,Ae⟩ ?_
  refine Ba 79 #[i6 c.Room,i6 1,i6 (c.Frames - c.Kernel)] (some 23) (.bool (win c.Room 1 (c.Frames - c.Kernel))) (fun w6 hw6=>Gj w6 c.Room 1 (c.Frames - c.Kernel)) (fun n7 (hn8:n2≤n7) => ?_)
  refine Dh [1,15,23] [(1,pt z),(15,.bool false),(23,.bool (win c.Room 1 (c.Frames - c.Kernel)))] ?_
  by_cases h9:(win c.Room 1 (c.Frames - c.Kernel))=true
  ·have hd10:=Dz h9
   refine AZ 11 0 [0] [[(ov (.bool false)),o0],[o0]] [Value.bool (!(win c.Room 1 (c.Frames - c.Kernel)))=Value.bool false] [(1,pt z),(3,i6 0)] rfl ⟨by simp[h9],Ae⟩ ?_
   refine D8 (fun m a w'=>∃ (n12:Nat) (q:Nat),m=c.Aa.xs.length - q∧n7≤n12∧(q≤c.Aa.xs.length)∧(∀ a,a<q→UK c a=false)∧St 75 [(1,pt z),(3,Ac q)] [] ⟨w,n12,[(Ak w),(U7 z c)]⟩ a w') (c.Aa.xs.length - 0) ?_ ?_
   ·intro a w' hs;exact⟨n7,0,rfl,Nat.le_refl _,Nat.zero_le _,fun i hi=>absurd hi (Nat.not_lt_zero i),hs⟩
   rintro m a w' ⟨n12,q,rfl,hn11,hkq,hg,hs⟩
   refine(?_:G Tryd.prog 75 [(1,pt z),(3,Ac q)] [] ⟨w,n12,[(Ak w),(U7 z c)]⟩ _ _ _) a w' hs
   clear hs a w'
   have hw1:=Dz h4
   have hw2:=Dz h9
   refine CW <| CW ?_
   by_cases h13:(q:Int)<(c.Aa.xs.length:Int)
   ·refine Au 13 0 [1] [[o0,o0,(a1 1),o0,oT],[o0]] [Qb z,BT ((q:Int)<(c.Aa.xs.length:Int))] [(1,pt z),(3,Ac q),(4,i6 0)] rfl ⟨rfl,bt,Ae⟩ ?_
    refine D8 (fun m a w'=>∃ (n15:Nat) (n:Nat),m=(gd c.Aa.xs q).Ah.xs.length - n∧n12≤n15∧(n≤(gd c.Aa.xs q).Ah.xs.length)∧(∀ a,a<n→WW c q a=false)∧St 75 [(1,pt z),(3,Ac q),(4,Ac n)] [] ⟨w,n15,[(Ak w),(U7 z c)]⟩ a w') ((gd c.Aa.xs q).Ah.xs.length - 0) ?_ ?_
    ·intro a w' hs;exact⟨n12,0,rfl,Nat.le_refl _,Nat.zero_le _,fun i hi=>absurd hi (Nat.not_lt_zero i),hs⟩
    rintro m a w' ⟨n15,n,rfl,hn14,hkn,hh,hs⟩
    refine(?_:G Tryd.prog 75 [(1,pt z),(3,Ac q),(4,Ac n)] [] ⟨w,n15,[(Ak w),(U7 z c)]⟩ _ _ _) a w' hs
    clear hs a w'
    refine CW <| CW ?_
    obtain⟨b16,o17,ha18,hF20,hc19⟩:=(hc.Aa).1.all (show 0<c.Aa.xs.length by omega)
    replace ha18:c.Aa.a=some ⟨b16,o17,none⟩:=ha18
    have hc21:=hc19 q (show q<c.Aa.xs.length by omega)
    have he22:=(hc.Aa).2 q (show q<c.Aa.xs.length by omega)
    obtain⟨y23,hy23⟩:∃ y_,y_=gd c.Aa.xs q:=⟨_,rfl⟩
    rw[←hy23]at he22 hc21
    have hley23:y23.Ah.xs.length=(gd c.Aa.xs q).Ah.xs.length:=(by rw[hy23]);have hyly23:=he22.Ah.1.len
    by_cases h24:(n:Int)<(y23.Ah.xs.length:Int)
    ·refine Au 9 0 [1] [[o0,o0,(EM 1 b16 o17 c.Aa),o0,(oi q),o0,(oa [.via 0 (.slice y23.Ah.a y23.Ah.xs.length y23.Ah.cap)]),o0,oT]] [Qb z,Ej b16 o17 c.Aa,Dc q,q<c.Aa.xs.length,BM,Old w b16 (o17+q*8+6) (.slice y23.Ah.a y23.Ah.xs.length y23.Ah.cap),BT ((n:Int)<(y23.Ah.xs.length:Int))] [(1,pt z),(3,Ac q),(4,Ac n),(41,.bool true)] rfl ⟨rfl,Eg ha18,rfl,(by omega),rfl,Aw (hc21 6 _ rfl),bt,Ae⟩ ?_
     obtain⟨b25,o26,ha27,hF29,hc28⟩:=(he22.Ah).1.all (show 0<y23.Ah.xs.length by omega)
     replace ha27:y23.Ah.a=some ⟨b25,o26,none⟩:=ha27
     have hc30:=hc28 n (show n<y23.Ah.xs.length by omega)
     have he31:=(he22.Ah).2 n (show n<y23.Ah.xs.length by omega)
     obtain⟨y32,hy32⟩:∃ y_,y_=gd y23.Ah.xs n:=⟨_,rfl⟩
     rw[←hy32]at he31 hc30
     have e0y32:DV c q n=y32:=(by dsimp only[DV];rw[hy32,hy23])
     refine q_c 5 8 [] [[o0,(EM 1 b16 o17 c.Aa),o0,(oi q),o0,⟨.auto [.via 0 (.slice y23.Ah.a y23.Ah.xs.length y23.Ah.cap)],some (.slice (some ⟨b25,o26,none⟩) y23.Ah.xs.length y23.Ah.cap)⟩,o0,(oi n),(ol 0 (CS.arr y32)),o0,(an 4 2)],[o0,(a1 2),o0,(a1 2),o0,(a1 1),o0,(a1 1)]] [Qb z,Ej b16 o17 c.Aa,Dc q,q<c.Aa.xs.length,BM,Old w b16 (o17+q*8+6) (.slice y23.Ah.a y23.Ah.xs.length y23.Ah.cap),Ej b25 o26 y23.Ah,Dc n,n<y23.Ah.xs.length,BM,GN w b25 (o26+n*4) (CS.arr y32),Qb n15,Qb n15,Qb n15,Qb n15,Qb n15,Qb n15,Qb z,Qb z] [(1,pt z),(3,Ac q),(4,Ac n),(54,i6 y32.Frame),(56,i6 y32.AO),(58,i6 c.Kernel),(60,i6 c.Room)] ⟨w,n15+1,[(Ak w),(U7 z c),(bk n15 (CS.arr y32) 147)]⟩ rfl ⟨rfl,Eg ha18,rfl,(by omega),rfl,Aw (hc21 6 _ rfl),Eg ha27,rfl,(by omega),rfl,Em hc30,rfl,rfl,rfl,rfl,rfl,rfl,rfl,rfl,Ae⟩ ?_
     have hm34:=Uy hFr.2 (O9 (hpf q (by omega))) n (by dsimp only[Es];omega);rw[e0y32]at hm34;unfold Bd at hm34
     refine Ba 85 #[i6 y32.Frame,i6 y32.AO,i6 c.Kernel,i6 c.Room] (some 61) (.bool (meet y32.Frame y32.AO c.Kernel c.Room)) (fun w33 hw33=>SQ w33 y32.Frame y32.AO c.Kernel c.Room (by omega) (by omega) (by omega) (by omega)) (fun n35 (hn36:n15+1≤n35) => ?_)
     refine Dh [1,3,4,61] [(1,pt z),(3,Ac q),(4,Ac n),(61,.bool (meet y32.Frame y32.AO c.Kernel c.Room))] ?_
     refine Ve (by kernel_rfl) ?_
     refine Gy ?_
     by_cases h37:(meet y32.Frame y32.AO c.Kernel c.Room)=true
     ·refine Au 6 0 [3] [[o0]] [Value.bool (meet y32.Frame y32.AO c.Kernel c.Room)=Value.bool true] [(2,.bool false)] rfl ⟨(congrArg Value.bool h37),Ae⟩ ?_
      refine Az [] [] (.bool false) Ae ?_
      intro w38 hw38
      refine⟨congrArg (fun b=>Ending.returned (Value.bool b)) (?_:false=F9 c),AB hw38⟩
      have eo:(List.range c.Aa.xs.length).any (UK c)=true:=range_any (k:=q) (by omega) (range_any (k:=n) (by dsimp only[Es];omega) (by unfold WW;rw[e0y32];exact h37))
      unfold F9;simp[eo]
     refine Au 6 0 [2] [[o0,(ov (i6 ((n+1:Nat):Int))),o0]] [Value.bool (meet y32.Frame y32.AO c.Kernel c.Room)=Value.bool false,Wr ((n:Int)+1) (((n+1:Nat):Int))] [(1,pt z),(3,Ac q),(4,i6 ((n+1:Nat):Int))] rfl ⟨(congrArg Value.bool (Bool.eq_false_iff.2 h37)),BP,Ae⟩ ?_
     refine Cc [0,1] [(Ak w),(U7 z c)] rfl rfl ?_
     refine BI [1,3,4] [(1,pt z),(3,Ac q),(4,i6 ((n+1:Nat):Int))] ?_
     refine BR (fun a w' hs=>⟨(gd c.Aa.xs q).Ah.xs.length - (n+1),by omega,n35,(n+1),rfl,by omega,by omega,EP hh (by unfold WW;rw[e0y32];simpa using h37),hs⟩)
    refine Au 12 0 [0] [[o0,o0,(EM 1 b16 o17 c.Aa),o0,(oi q),o0,(oa [.via 0 (.slice y23.Ah.a y23.Ah.xs.length y23.Ah.cap)]),o0,oF],[o0,(ov (i6 ((q+1:Nat):Int))),o0]] [Qb z,Ej b16 o17 c.Aa,Dc q,q<c.Aa.xs.length,BM,Old w b16 (o17+q*8+6) (.slice y23.Ah.a y23.Ah.xs.length y23.Ah.cap),BF ((n:Int)<(y23.Ah.xs.length:Int)),Wr ((q:Int)+1) (((q+1:Nat):Int))] [(1,pt z),(3,i6 ((q+1:Nat):Int))] rfl ⟨rfl,Eg ha18,rfl,(by omega),rfl,Aw (hc21 6 _ rfl),bf,BP,Ae⟩ ?_
    refine BR (fun a w' hs=>⟨c.Aa.xs.length - (q+1),by omega,n15,(q+1),rfl,by omega,by omega,EP hg (Gv (fun i hi=>hh i (by dsimp only[Es]at hi;omega))),hs⟩)
   refine Au 11 1 [0] [[o0,o0,(a1 1),o0,oF],[(an 7 1)]] [Qb z,BF ((q:Int)<(c.Aa.xs.length:Int)),Qb z,Qb z,Qb z,Qb z,Qb z,Qb z,Qb z] [(1,pt z),(63,.agg (Ai.arr c))] rfl ⟨rfl,bf,rfl,rfl,rfl,rfl,rfl,rfl,rfl,Ae⟩ ?_
   refine Ba 86 #[.agg (Ai.arr c)] (some 64) (.tuple #[i6 (JC c),i6 (errOf c)]) (fun w39 hw39=>rneed_calls w39 c (hc.ext (hw39.ext rfl) (fun _ h=>h))) (fun n40 (hn41:n12≤n40) => ?_)
   refine AZ 3 0 [] [[o0,o0,o0,o0,o0]] [] [(1,pt z),(6,i6 (JC c)),(7,i6 (errOf c))] rfl Ae ?_
   by_cases h42:(errOf c:Int)=0
   ·by_cases h43:(c.Room:Int)<JC c
    ·refine Au 4 0 [] [[o0,oT,o0,o0,o0,(a1 1),oF,o0,o0]] [ET (errOf c) 0,Qb z,BF ((JC c:Int)≤c.Room)] [(2,.bool false)] rfl ⟨et,rfl,bf,Ae⟩ ?_
     refine Az [] [] (.bool false) Ae ?_
     intro w44 hw44
     refine⟨congrArg (fun b=>Ending.returned (Value.bool b)) (?_:false=F9 c),AB hw44⟩
     have eo:(List.range c.Aa.xs.length).any (UK c)=false:=Gv (fun i hi=>hg i (by omega))
     unfold F9;rw[eo];simp[h4,h9];first | done | omega
    refine Au 4 0 [] [[o0,oT,o0,o0,o0,(a1 1),oT,o0,o0]] [ET (errOf c) 0,Qb z,BT ((JC c:Int)≤c.Room)] [(2,.bool true)] rfl ⟨et,rfl,bt,Ae⟩ ?_
    refine Az [] [] (.bool true) Ae ?_
    intro w45 hw45
    refine⟨congrArg (fun b=>Ending.returned (Value.bool b)) (?_:true=F9 c),AB hw45⟩
    have eo:(List.range c.Aa.xs.length).any (UK c)=false:=Gv (fun i hi=>hg i (by omega))
    unfold F9;rw[eo];simp[h4,h9];first | done | omega
   refine Au 4 0 [] [[o0,oF,o0,o0,o0]] [EF (errOf c) 0] [(2,.bool false)] rfl ⟨ef,Ae⟩ ?_
   refine Az [] [] (.bool false) Ae ?_
   intro w46 hw46
   refine⟨congrArg (fun b=>Ending.returned (Value.bool b)) (?_:false=F9 c),AB hw46⟩
   have eo:(List.range c.Aa.xs.length).any (UK c)=false:=Gv (fun i hi=>hg i (by omega))
   unfold F9;rw[eo];simp[h4,h9];first | done | omega
  have hd47:=FI h9
  refine AZ 8 0 [1] [[(ov (.bool true)),o0],[o0]] [Value.bool (!(win c.Room 1 (c.Frames - c.Kernel)))=Value.bool true] [(2,.bool false)] rfl ⟨by simp[h9],Ae⟩ ?_
  refine Az [] [] (.bool false) Ae ?_
  intro w48 hw48
  refine⟨congrArg (fun b=>Ending.returned (Value.bool b)) (?_:false=F9 c),AB hw48⟩
  unfold F9;simp[h4,h9]
 have hd49:=FI h4
 refine AZ 8 0 [1] [[(ov (.bool true)),o0,o0],[o0]] [Value.bool (!(win c.Kernel 0 (c.Frames - 1)))=Value.bool true] [(2,.bool false)] rfl ⟨by simp[h4],Ae⟩ ?_
 refine Az [] [] (.bool false) Ae ?_
 intro w50 hw50
 refine⟨congrArg (fun b=>Ending.returned (Value.bool b)) (?_:false=F9 c),AB hw50⟩
 unfold F9;simp[h4]
section
variable {c:Ai}
theorem X9(hW:Gp c=AQ):∀ i,i<5→gd (answers c) i=AQ:=fun i hi=>by
 rw[VB hi];exact YJ hW i hi
theorem YH{n:Nat}(hW:Gp c=AQ)(hP:∀ a,a<c.Aa.xs.length→5+a<n→CP c a=AQ)(hH:∀ a,a<c.Aj.xs.length→5+c.Aa.xs.length+a<n→Dp c a=AQ)(hK:∀ a,a<c.Bc.xs.length→5+c.Aa.xs.length+c.Aj.xs.length+a<n→Ea c a=AQ)(hn:n≤5+c.Aa.xs.length+c.Aj.xs.length+c.Bc.xs.length):∀ i,i<n→gd (answers c) i=AQ:=by
 intro i hi
 rcases Nat.lt_or_ge i 5 with g | g
 ·exact X9 hW i g
 rcases Nat.lt_or_ge i (5+c.Aa.xs.length)with g1 | g1
 ·obtain⟨p,rfl⟩:∃ p,i=5+p:=⟨i - 5,by omega⟩
  rw[Wp (by omega)];exact hP p (by omega) hi
 rcases Nat.lt_or_ge i (5+c.Aa.xs.length+c.Aj.xs.length)with g2 | g2
 ·obtain⟨p,rfl⟩:∃ p,i=5+c.Aa.xs.length+p:=⟨i - (5+c.Aa.xs.length),by omega⟩
  rw[ZO (by omega)];exact hH p (by omega) hi
 obtain⟨p,rfl⟩:∃ p,i=5+c.Aa.xs.length+c.Aj.xs.length+p:=⟨i - (5+c.Aa.xs.length+c.Aj.xs.length),by omega⟩
 rw[ZG (by omega)];exact hK p (by omega) hi
theorem check_w(hne:Gp c≠AQ):Ff c=Gp c:=by
 unfold Ff answers
 rw[List.append_assoc,List.append_assoc,List.append_assoc,Zas,if_neg (show ¬ AY [Gi c,whole2 c,Gq c,Gm c,FC c]=AQ from hne)];rfl
theorem check_p{p:Nat}(hW:Gp c=AQ)(hf:∀ a,a<p→CP c a=AQ)(hp:p<c.Aa.xs.length)(hne:CP c p≠AQ):Ff c=CP c p :=
 (NM (k:=5+p) (by rw[GM];omega) (YH hW (fun a _ h=>hf a (by omega)) (fun a _ h=>by omega) (fun a _ h=>by omega) (by omega)) (by rw[Wp hp];exact hne)).trans (Wp hp)
theorem check_h{h:Nat}(hW:Gp c=AQ)(hP:∀ a,a<c.Aa.xs.length→CP c a=AQ)(hf:∀ a,a<h→Dp c a=AQ)(hh:h<c.Aj.xs.length)(hne:Dp c h≠AQ):Ff c=Dp c h :=
 (NM (k:=5+c.Aa.xs.length+h) (by rw[GM];omega) (YH hW (fun a ha _=>hP a ha) (fun a _ h=>hf a (by omega)) (fun a _ h=>by omega) (by omega)) (by rw[ZO hh];exact hne)).trans (ZO hh)
theorem check_k{k:Nat}(hW:Gp c=AQ)(hP:∀ a,a<c.Aa.xs.length→CP c a=AQ)(hH:∀ a,a<c.Aj.xs.length→Dp c a=AQ)(hf:∀ a,a<k→Ea c a=AQ)(hk:k<c.Bc.xs.length)(hne:Ea c k≠AQ):Ff c=Ea c k :=
 (NM (k:=5+c.Aa.xs.length+c.Aj.xs.length+k) (by rw[GM];omega) (YH hW (fun a ha _=>hP a ha) (fun a ha _=>hH a ha) (fun a _ h=>hf a (by omega)) (by omega)) (by rw[ZG hk];exact hne)).trans (ZG hk)
theorem check_e(hW:Gp c=AQ)(hP:∀ a,a<c.Aa.xs.length→CP c a=AQ)(hH:∀ a,a<c.Aj.xs.length→Dp c a=AQ)(hK:∀ a,a<c.Bc.xs.length→Ea c a=AQ):Ff c=I4 c:=by
 have hpre:=YH (n:=5+c.Aa.xs.length+c.Aj.xs.length+c.Bc.xs.length) hW (fun a ha _=>hP a ha) (fun a ha _=>hH a ha) (fun a ha _=>hK a ha) (Nat.le_refl _)
 by_cases e:I4 c=AQ
 ·rw[e]
  exact ZaI fun i hi=>by
   rw[GM]at hi
   by_cases e2:i=5+c.Aa.xs.length+c.Aj.xs.length+c.Bc.xs.length
   ·rw[e2,ZL];exact e
   exact hpre i (by omega)
 exact(NM (by rw[GM];omega) hpre (by rw[ZL];exact e)).trans ZL
theorem whole_at:Gp c=AQ∨(¬ (Gp c).e=0∧(Gp c).Ag=⟨-1, -1⟩):=by
 have h:∀ x∈[Gi c,whole2 c,Gq c,Gm c,FC c],x=AQ∨(¬ x.e=0∧x.Ag=⟨-1, -1⟩):=by
  intro x hx
  simp only[List.mem_cons,List.not_mem_nil,or_false]at hx
  rcases hx with rfl | rfl | rfl | rfl | rfl
  ·unfold Gi;cases win c.Frames 1 1024 <;> simp[Af,AQ]
  ·unfold whole2;cases win c.Gg 1 16384 <;> simp[Af,AQ]
  ·unfold Gq;cases win (c.Bc.xs.length:Int) 1 4 <;> simp[Af,AQ]
  ·unfold Gm;cases win (c.Aa.xs.length:Int) 1 8 <;> simp[Af,AQ]
  unfold FC;cases decide ((c.Aj.xs.length:Int)≤16) <;> simp[Af,AQ]
 unfold Gp
 generalize [Gi c,whole2 c,Gq c,Gm c,FC c]=l at h
 induction l with
 | nil=>exact .inl rfl
 | cons x r ih =>
  unfold AY
  by_cases e:x=AQ
  ·rw[if_pos e];exact ih fun y hy=>h y (List.mem_cons_of_mem _ hy)
  rw[if_neg e];exact h x (List.mem_cons_self ..)
theorem WE:(Gp c).e=0↔Gp c=AQ:=by
 constructor
 ·intro h;rcases whole_at (c:=c)with e | e
  ·exact e
  exact absurd h e.1
 intro h;rw[h];rfl
theorem chan_at(h:Nat):Dp c h=AQ∨(¬ (Dp c h).e=0∧(Dp c h).Ag=⟨(h:Int), -1⟩):=by
 unfold Dp
 cases(win (LD c h).Kind 1 2&&win (LD c h).Words 1 16&&Eb (LD c h)) <;> cases decide ((IP c h:Nat)=(1:Int)) <;> cases win (Bz c h:Nat) 1 (A8 (LD c h)) <;> simp[AY,Af,AQ]
theorem frames_w(hW:Gp c=AQ):1≤c.Frames∧c.Frames≤1024:=Xa (n:=5) (X9 hW) (by decide)
theorem parts_w(hW:Gp c=AQ):c.Aa.xs.length≤1024:=parts_of (n:=5) (X9 hW) (by decide)
theorem ports_w(hP:∀ a,a<c.Aa.xs.length→CP c a=AQ):∀ p,p<c.Aa.xs.length→(gd c.Aa.xs p).Ap.xs.length≤1024:=fun p hp=>by
 have h:=(MJ (YB (hP p hp))).1
 have h2:=LQ h _ (List.mem_cons_of_mem _ (List.mem_cons_self ..))
 rw[Ho (by decide)]at h2
 have:=of_decide_eq_true h2
 simp only[Es]at this
 omega
end
section
variable (z:Nat)(c:Ai)(p k:Nat)(n28 n9:Nat)
abbrev qjhh_0:=bk (z+1) #[i6 ((CP c p).Ag.First),i6 ((CP c p).Ag.Second)] 108
abbrev qjhh_1:=bk (z+1) #[i6 ((Ea c k).Ag.First),i6 ((Ea c k).Ag.Second)] 108
abbrev ZJ:=bk n28 #[i6 ((Ea c k).Ag.First),i6 ((Ea c k).Ag.Second)] 108
abbrev Z7:=bk n9 #[i6 ((CP c p).Ag.First),i6 ((CP c p).Ag.Second)] 108
abbrev Ol:=bk (z+1) #[i6 0,i6 0] 108
abbrev KA:=bk z (Ai.arr c) 26
abbrev FO:=(3,pt (z+1))
end
theorem rcheck_calls(w:World)(c:Ai)(hc:Ai.ok Any w c):Calls Tryd.prog 32 #[.agg (Ai.arr c)] w fun e w'=>e = .returned (.tuple #[.int .i64 (Ff c).e,.agg #[.int .i64 (Ff c).Ag.First,.int .i64 (Ff c).Ag.Second]])∧Ce (fun _=>False) w w':=by
 obtain⟨z,hz⟩:∃ z,z=w.heap.size:=⟨_,rfl⟩
 refine Bf (args:=[.agg (Ai.arr c)]) 73 ⟨w,z,[(Ak w)]⟩ Tryd.func32 rfl (by kernel_rfl) (by kernel_rfl) (Ed hz) ?_
 have hpl:=hc.Aa.1.len;have hpc:=hc.Bc.1.len;have hpch:=hc.Aj.1.len
 refine Di [0] [(0,.agg (Ai.arr c))] ?_
 refine q_c 6 1 [] [[o0,o0,o0],[(an 7 1)]] [Qb z,Qb z,Qb z,Qb z,Qb z,Qb z,Qb z] [(1,pt z),(FO z),(13,.agg (Ai.arr c))] ⟨w,z+2,[(Ak w),(KA z c),(Ol z)]⟩ rfl ⟨rfl,rfl,rfl,rfl,rfl,rfl,rfl,Ae⟩ ?_
 refine Ba 54 #[.agg (Ai.arr c)] (some 14) (i6 ((Gp c).e)) (fun w1 hw1=>rwhole_calls w1 c (hc.ext (hw1.ext rfl) (fun _ h=>h))) (fun n2 (hn3:z+2≤n2) => ?_)
 refine AZ 4 0 [] [[o0]] [] [(1,pt z),(FO z),(4,i6 ((Gp c).e))] rfl Ae ?_
 by_cases h4:((Gp c).e:Int)=0
 ·have hW:=WE.1 h4;have hFr:=frames_w hW
  refine Au 12 0 [0] [[o0,oF],[o0]] [NF ((Gp c).e) 0] [(1,pt z),(FO z),(5,i6 0)] rfl ⟨nf,Ae⟩ ?_
  refine D8 (fun m a w'=>∃ (n6:Nat) (p:Nat),m=c.Aa.xs.length - p∧n2≤n6∧(p≤c.Aa.xs.length)∧(∀ a,a<p→CP c a=AQ)∧St 73 [(1,pt z),(FO z),(5,Ac p)] [] ⟨w,n6,[(Ak w),(KA z c),(Ol z)]⟩ a w') (c.Aa.xs.length - 0) ?_ ?_
  ·intro a w' hs;exact⟨n2,0,rfl,Nat.le_refl _,Nat.zero_le _,fun i hi=>absurd hi (Nat.not_lt_zero i),hs⟩
  rintro m a w' ⟨n6,p,rfl,hn5,hkp,hf1,hs⟩
  refine(?_:G Tryd.prog 73 [(1,pt z),(FO z),(5,Ac p)] [] ⟨w,n6,[(Ak w),(KA z c),(Ol z)]⟩ _ _ _) a w' hs
  clear hs a w'
  refine CW <| CW ?_
  by_cases h7:(p:Int)<(c.Aa.xs.length:Int)
  ·have hp0:p<c.Aa.xs.length:=by omega
   refine Au 10 2 [1] [[o0,o0,(a1 1),o0,oT],[(an 7 1),o0]] [Qb z,BT ((p:Int)<(c.Aa.xs.length:Int)),Qb z,Qb z,Qb z,Qb z,Qb z,Qb z,Qb z] [(1,pt z),(FO z),(5,Ac p),(27,.agg (Ai.arr c)),(28,Ac p)] rfl ⟨rfl,bt,rfl,rfl,rfl,rfl,rfl,rfl,rfl,Ae⟩ ?_
   refine Ba 56 #[.agg (Ai.arr c),Ac p] (some 29) (.tuple #[i6 ((CP c p).e),.agg #[i6 ((CP c p).Ag.First),i6 ((CP c p).Ag.Second)]]) (fun w8 hw8=>YZ w8 c (hc.ext (hw8.ext rfl) (fun _ h=>h)) p hp0 hFr hf1) (fun n9 (hn10:n6≤n9) => ?_)
   refine EI 3 0 [] [[o0,o0,o0,o0,o0,(an 2 3)]] [Qb n9,Qb n9] [(1,pt z),(FO z),(5,Ac p),(7,pt n9),(6,i6 ((CP c p).e))] ⟨w,n9+1,[(Ak w),(KA z c),(Ol z),(Z7 c p n9)]⟩ rfl ⟨rfl,rfl,Ae⟩ ?_
   by_cases h11:((CP c p).e:Int)=0
   ·refine Au 9 0 [0] [[o0,oF],[o0,(ov (i6 ((p+1:Nat):Int))),o0]] [NF ((CP c p).e) 0,Wr ((p:Int)+1) (((p+1:Nat):Int))] [(1,pt z),(FO z),(5,i6 ((p+1:Nat):Int))] rfl ⟨nf,BP,Ae⟩ ?_
    refine Cc [0,1,2] [(Ak w),(KA z c),(Ol z)] rfl rfl ?_
    refine BI [1,3,5] [(1,pt z),(FO z),(5,i6 ((p+1:Nat):Int))] ?_
    refine BR (fun a w' hs=>⟨c.Aa.xs.length - (p+1),by omega,(n9+1),(p+1),rfl,by omega,by omega,EP hf1 ((UA (Zm c p)).1 h11),hs⟩)
   refine Au 5 0 [1] [[o0,oT]] [NT ((CP c p).e) 0] [(1,pt z),(FO z),(5,Ac p),(7,pt n9),(6,i6 ((CP c p).e)),(33,.bool true)] rfl ⟨nt,Ae⟩ ?_
   refine DZ 3 [0,1,2,3] [(Ak w),(KA z c),(Ol z),(Z7 c p n9)] rfl rfl ?_
   refine Ci [(0,o0),(1,(an 2 3)),(2,o0)] [3,35,2] [Qb n9,Qb n9] [true,true,true,false] [(FO z),(35,.agg #[i6 ((CP c p).Ag.First),i6 ((CP c p).Ag.Second)]),(2,i6 ((CP c p).e))] ⟨rfl,rfl,Ae⟩ ?_
   refine Bq 3 ?_
   refine BC (an 2 2) [3,2] [Qb (z+1),Qb (z+1)] [(FO z),(2,i6 ((CP c p).e))] ⟨w,n9+1,[(Ak w),(KA z c),(qjhh_0 z c p),(Z7 c p n9)]⟩ [] ⟨rfl,rfl,Ae⟩ (.inl rfl) ?_
   refine DX 4 [0,1,2,3] [(Ak w),(KA z c),(qjhh_0 z c p),(Z7 c p n9)] rfl rfl ?_
   refine CE ?_
   refine BI [3,2] [(FO z),(2,i6 ((CP c p).e))] ?_
   refine Gy <| Iu <| Az [.at 2,.at 2] [Qb (z+1),Qb (z+1)] (.tuple #[i6 ((CP c p).e),.agg #[i6 ((CP c p).Ag.First),i6 ((CP c p).Ag.Second)]]) ⟨rfl,rfl,Ae⟩ ?_
   intro w12 hw12
   have hq:=check_p hW hf1 hp0 (fun e=>h11 ((UA (Zm c p)).2 e))
   exact⟨congrArg Ending.returned (by rw[hq]),AB hw12⟩
  refine Au 15 0 [0] [[o0,o0,(a1 1),o0,oF],[o0]] [Qb z,BF ((p:Int)<(c.Aa.xs.length:Int))] [(1,pt z),(FO z),(8,i6 0)] rfl ⟨rfl,bf,Ae⟩ ?_
  refine D8 (fun m a w'=>∃ (n14:Nat) (h:Nat),m=c.Aj.xs.length - h∧n6≤n14∧(h≤c.Aj.xs.length)∧(∀ a,a<h→Dp c a=AQ)∧St 73 [(1,pt z),(FO z),(8,Ac h)] [] ⟨w,n14,[(Ak w),(KA z c),(Ol z)]⟩ a w') (c.Aj.xs.length - 0) ?_ ?_
  ·intro a w' hs;exact⟨n6,0,rfl,Nat.le_refl _,Nat.zero_le _,fun i hi=>absurd hi (Nat.not_lt_zero i),hs⟩
  rintro m a w' ⟨n14,h,rfl,hn13,hkh,hf2,hs⟩
  refine(?_:G Tryd.prog 73 [(1,pt z),(FO z),(8,Ac h)] [] ⟨w,n14,[(Ak w),(KA z c),(Ol z)]⟩ _ _ _) a w' hs
  clear hs a w'
  have hP:∀ a,a<c.Aa.xs.length→CP c a=AQ:=fun a ha=>hf1 a (by omega)
  refine CW <| CW ?_
  by_cases h15:(h:Int)<(c.Aj.xs.length:Int)
  ·have hh0:h<c.Aj.xs.length:=by omega
   refine Au 10 2 [1] [[o0,o0,(a1 1),o0,oT],[(an 7 1),o0]] [Qb z,BT ((h:Int)<(c.Aj.xs.length:Int)),Qb z,Qb z,Qb z,Qb z,Qb z,Qb z,Qb z] [(1,pt z),(FO z),(8,Ac h),(43,.agg (Ai.arr c)),(44,Ac h)] rfl ⟨rfl,bt,rfl,rfl,rfl,rfl,rfl,rfl,rfl,Ae⟩ ?_
   refine Ba 57 #[.agg (Ai.arr c),Ac h] (some 45) (i6 ((Dp c h).e)) (fun w16 hw16=>ZaN w16 c (hc.ext (hw16.ext rfl) (fun _ h=>h)) h hh0 (parts_w hW) (ports_w hP)) (fun n17 (hn18:n14≤n17) => ?_)
   refine AZ 3 0 [] [[o0]] [] [(1,pt z),(FO z),(8,Ac h),(9,i6 ((Dp c h).e))] rfl Ae ?_
   by_cases h19:((Dp c h).e:Int)=0
   ·refine Au 9 0 [0] [[o0,oF],[o0,(ov (i6 ((h+1:Nat):Int))),o0]] [NF ((Dp c h).e) 0,Wr ((h:Int)+1) (((h+1:Nat):Int))] [(1,pt z),(FO z),(8,i6 ((h+1:Nat):Int))] rfl ⟨nf,BP,Ae⟩ ?_
    refine BR (fun a w' hs=>⟨c.Aj.xs.length - (h+1),by omega,n17,(h+1),rfl,by omega,by omega,EP hf2 ((UA (WA c h)).1 h19),hs⟩)
   refine Au 6 2 [1] [[o0,oT],[o0,o0]] [NT ((Dp c h).e) 0] [(FO z),(48,i6 ((Dp c h).e)),(49,Ac h)] rfl ⟨nt,Ae⟩ ?_
   refine Ba 58 #[(Ac h)] (some 50) (.agg #[(Ac h),i6 (-1)]) (fun w20 hw20=>JW w20 (h:Int)) (fun n21 (hn22:n17≤n21) => ?_)
   refine EI 3 0 [] [[o0,(an 2 2)]] [Qb (z+1),Qb (z+1)] [(FO z),(2,i6 ((Dp c h).e))] ⟨w,n21,[(Ak w),(KA z c),(bk (z+1) #[(Ac h),i6 (-1)] 108)]⟩ rfl ⟨rfl,rfl,Ae⟩ ?_
   refine Az [.at 2,.at 2] [Qb (z+1),Qb (z+1)] (.tuple #[i6 ((Dp c h).e),.agg #[(Ac h),i6 (-1)]]) ⟨rfl,rfl,Ae⟩ ?_
   intro w23 hw23
   have hw9:(Dp c h).Ag=⟨(h:Int), -1⟩:=by rcases chan_at (c:=c) h with e | e;exact absurd ((UA (WA c h)).2 e) h19;exact e.2
   have hq:=check_h hW hP hf2 hh0 (fun e=>h19 ((UA (WA c h)).2 e))
   exact⟨congrArg Ending.returned (by rw[hq,hw9]),AB hw23⟩
  refine Au 15 0 [0] [[o0,o0,(a1 1),o0,oF],[o0]] [Qb z,BF ((h:Int)<(c.Aj.xs.length:Int))] [(1,pt z),(FO z),(10,i6 0)] rfl ⟨rfl,bf,Ae⟩ ?_
  refine D8 (fun m a w'=>∃ (n25:Nat) (k:Nat),m=c.Bc.xs.length - k∧n14≤n25∧(k≤c.Bc.xs.length)∧(∀ a,a<k→Ea c a=AQ)∧St 73 [(1,pt z),(FO z),(10,Ac k)] [] ⟨w,n25,[(Ak w),(KA z c),(Ol z)]⟩ a w') (c.Bc.xs.length - 0) ?_ ?_
  ·intro a w' hs;exact⟨n14,0,rfl,Nat.le_refl _,Nat.zero_le _,fun i hi=>absurd hi (Nat.not_lt_zero i),hs⟩
  rintro m a w' ⟨n25,k,rfl,hn24,hkk,hf3,hs⟩
  refine(?_:G Tryd.prog 73 [(1,pt z),(FO z),(10,Ac k)] [] ⟨w,n25,[(Ak w),(KA z c),(Ol z)]⟩ _ _ _) a w' hs
  clear hs a w'
  have hP:∀ a,a<c.Aa.xs.length→CP c a=AQ:=fun a ha=>hf1 a (by omega)
  have hH:∀ a,a<c.Aj.xs.length→Dp c a=AQ:=fun a ha=>hf2 a (by omega)
  refine CW <| CW ?_
  by_cases h26:(k:Int)<(c.Bc.xs.length:Int)
  ·have hk0:k<c.Bc.xs.length:=by omega
   refine Au 10 2 [1] [[o0,o0,(a1 1),o0,oT],[(an 7 1),o0]] [Qb z,BT ((k:Int)<(c.Bc.xs.length:Int)),Qb z,Qb z,Qb z,Qb z,Qb z,Qb z,Qb z] [(1,pt z),(FO z),(10,Ac k),(59,.agg (Ai.arr c)),(60,Ac k)] rfl ⟨rfl,bt,rfl,rfl,rfl,rfl,rfl,rfl,rfl,Ae⟩ ?_
   refine Ba 59 #[.agg (Ai.arr c),Ac k] (some 61) (.tuple #[i6 ((Ea c k).e),.agg #[i6 ((Ea c k).Ag.First),i6 ((Ea c k).Ag.Second)]]) (fun w27 hw27=>rcore_calls w27 c (hc.ext (hw27.ext rfl) (fun _ h=>h)) k hk0) (fun n28 (hn29:n25≤n28) => ?_)
   refine EI 3 0 [] [[o0,o0,o0,o0,o0,(an 2 3)]] [Qb n28,Qb n28] [(1,pt z),(FO z),(10,Ac k),(12,pt n28),(11,i6 ((Ea c k).e))] ⟨w,n28+1,[(Ak w),(KA z c),(Ol z),(ZJ c k n28)]⟩ rfl ⟨rfl,rfl,Ae⟩ ?_
   by_cases h30:((Ea c k).e:Int)=0
   ·refine Au 9 0 [0] [[o0,oF],[o0,(ov (i6 ((k+1:Nat):Int))),o0]] [NF ((Ea c k).e) 0,Wr ((k:Int)+1) (((k+1:Nat):Int))] [(1,pt z),(FO z),(10,i6 ((k+1:Nat):Int))] rfl ⟨nf,BP,Ae⟩ ?_
    refine Cc [0,1,2] [(Ak w),(KA z c),(Ol z)] rfl rfl ?_
    refine BI [1,3,10] [(1,pt z),(FO z),(10,i6 ((k+1:Nat):Int))] ?_
    refine BR (fun a w' hs=>⟨c.Bc.xs.length - (k+1),by omega,(n28+1),(k+1),rfl,by omega,by omega,EP hf3 ((UA (Zj c k)).1 h30),hs⟩)
   refine Au 5 0 [1] [[o0,oT]] [NT ((Ea c k).e) 0] [(1,pt z),(FO z),(10,Ac k),(12,pt n28),(11,i6 ((Ea c k).e)),(65,.bool true)] rfl ⟨nt,Ae⟩ ?_
   refine DZ 3 [0,1,2,3] [(Ak w),(KA z c),(Ol z),(ZJ c k n28)] rfl rfl ?_
   refine Ci [(0,o0),(1,(an 2 3)),(2,o0)] [3,67,2] [Qb n28,Qb n28] [true,true,true,false] [(FO z),(67,.agg #[i6 ((Ea c k).Ag.First),i6 ((Ea c k).Ag.Second)]),(2,i6 ((Ea c k).e))] ⟨rfl,rfl,Ae⟩ ?_
   refine Bq 3 ?_
   refine BC (an 2 2) [3,2] [Qb (z+1),Qb (z+1)] [(FO z),(2,i6 ((Ea c k).e))] ⟨w,n28+1,[(Ak w),(KA z c),(qjhh_1 z c k),(ZJ c k n28)]⟩ [] ⟨rfl,rfl,Ae⟩ (.inl rfl) ?_
   refine DX 4 [0,1,2,3] [(Ak w),(KA z c),(qjhh_1 z c k),(ZJ c k n28)] rfl rfl ?_
   refine CE ?_
   refine BI [3,2] [(FO z),(2,i6 ((Ea c k).e))] ?_
   refine Gy <| Iu <| Az [.at 2,.at 2] [Qb (z+1),Qb (z+1)] (.tuple #[i6 ((Ea c k).e),.agg #[i6 ((Ea c k).Ag.First),i6 ((Ea c k).Ag.Second)]]) ⟨rfl,rfl,Ae⟩ ?_
   intro w31 hw31
   have hq:=check_k hW hP hH hf3 hk0 (fun e=>h30 ((UA (Zj c k)).2 e))
   exact⟨congrArg Ending.returned (by rw[hq]),AB hw31⟩
  refine Au 12 1 [0] [[o0,o0,(a1 1),o0,oF],[(an 7 1)]] [Qb z,BF ((k:Int)<(c.Bc.xs.length:Int)),Qb z,Qb z,Qb z,Qb z,Qb z,Qb z,Qb z] [(FO z),(68,.agg (Ai.arr c))] rfl ⟨rfl,bf,rfl,rfl,rfl,rfl,rfl,rfl,rfl,Ae⟩ ?_
  refine Ba 60 #[.agg (Ai.arr c)] (some 69) (.bool (F9 c)) (fun w32 hw32=>rarea_calls w32 c (hc.ext (hw32.ext rfl) (fun _ h=>h)) hFr hP) (fun n33 (hn34:n25≤n33) => ?_)
  refine Dh [3,69] [(FO z),(69,.bool (F9 c))] ?_
  by_cases h35:(F9 c)=true
  ·refine AZ 10 0 [0] [[(ov (.bool false))],[o0,o0,(an 2 2)]] [Value.bool (!(F9 c))=Value.bool false,Qb (z+1),Qb (z+1)] [(FO z),(2,i6 0)] rfl ⟨by simp[h35],rfl,rfl,Ae⟩ ?_
   refine Az [.at 2,.at 2] [Qb (z+1),Qb (z+1)] (.tuple #[i6 0,.agg #[i6 0,i6 0]]) ⟨rfl,rfl,Ae⟩ ?_
   intro w36 hw36
   have hq:Ff c=⟨0,⟨0,0⟩⟩:=(check_e hW hP hH (fun a ha=>hf3 a (by omega))).trans (by unfold I4;rw[show F9 c=true from by simpa using h35];rfl)
   exact⟨congrArg Ending.returned (by rw[hq]),AB hw36⟩
  refine AZ 5 0 [1] [[(ov (.bool true))]] [Value.bool (!(F9 c))=Value.bool true] [(FO z),(70,.bool true)] rfl ⟨by simp[h35],Ae⟩ ?_
  refine Ba 55 #[] (some 71) (.agg #[i6 (-1),i6 (-1)]) (fun w37 hw37=>YN w37 ) (fun n38 (hn39:n33≤n38) => ?_)
  refine EI 3 0 [] [[o0,(an 2 2)]] [Qb (z+1),Qb (z+1)] [(FO z),(2,i6 423)] ⟨w,n38,[(Ak w),(KA z c),(bk (z+1) #[i6 (-1),i6 (-1)] 108)]⟩ rfl ⟨rfl,rfl,Ae⟩ ?_
  refine Az [.at 2,.at 2] [Qb (z+1),Qb (z+1)] (.tuple #[i6 423,.agg #[i6 (-1),i6 (-1)]]) ⟨rfl,rfl,Ae⟩ ?_
  intro w40 hw40
  have hq:Ff c=⟨423,⟨-1, -1⟩⟩:=(check_e hW hP hH (fun a ha=>hf3 a (by omega))).trans (by unfold I4;rw[show F9 c=false from by simpa using h35];rfl)
  exact⟨congrArg Ending.returned (by rw[hq]),AB hw40⟩
 refine Au 6 1 [1] [[o0,oT],[o0]] [NT ((Gp c).e) 0] [(FO z),(17,i6 ((Gp c).e))] rfl ⟨nt,Ae⟩ ?_
 refine Ba 55 #[] (some 18) (.agg #[i6 (-1),i6 (-1)]) (fun w41 hw41=>YN w41 ) (fun n42 (hn43:n2≤n42) => ?_)
 refine EI 3 0 [] [[o0,(an 2 2)]] [Qb (z+1),Qb (z+1)] [(FO z),(2,i6 ((Gp c).e))] ⟨w,n42,[(Ak w),(KA z c),(bk (z+1) #[i6 (-1),i6 (-1)] 108)]⟩ rfl ⟨rfl,rfl,Ae⟩ ?_
 refine Az [.at 2,.at 2] [Qb (z+1),Qb (z+1)] (.tuple #[i6 ((Gp c).e),.agg #[i6 (-1),i6 (-1)]]) ⟨rfl,rfl,Ae⟩ ?_
 intro w44 hw44
 have hw9:(Gp c).Ag=⟨-1, -1⟩:=by rcases whole_at (c:=c)with e | e;exact absurd (WE.2 e) h4;exact e.2
 have hq:=check_w (fun e=>h4 (WE.2 e))
 exact⟨congrArg Ending.returned (by rw[hq,hw9]),AB hw44⟩
end Go.Proofs.YtlccogilgegnfaaDoor.Ad
namespace Go.Proofs.YtlccogilgegnfaaDoor.Hx
open Go Go.Proofs.YtlccogilgegnfaaDoor.Eng Go.Proofs.YtlccogilgegnfaaDoor.Mem Go.Proofs.YtlccogilgegnfaaDoor.Ly Go.Proofs.YtlccogilgegnfaaDoor.Ad
set_option linter.unusedSimpArgs false
set_option linter.unusedVariables false
set_option maxRecDepth 100000
def Xw(n mq:Nat)(aW:Option Addr)(nW cW:Nat)(W:List Int):List Ch:=[.blk mq (.cells #[.slice aW nW cW] 106 (0,0)) true,BV n 38 1 (fun x:Int=>[Value.int .u32 x]) (.slice aW nW cW) W]
theorem memS_new{n mq nW cW m:Nat}{aW:Option Addr}{W:List Int}{w0 w:World}(h:Sat ⟨w0,m,Xw n mq aW nW cW W⟩ w)(hq:n≤mq):∀ c∈Xw n mq aW nW cW W,∀ b,c.F b→n≤b:=by
 intro x hx b hb
 have hh:=h.all x hx
 simp only[Xw,List.mem_cons,List.not_mem_nil,or_false]at hx
 rcases hx with rfl | rfl
 ·have hb':b=mq:=hb
  omega
 exact P5 hh b hb
theorem wdS_new{n dp nP cV m:Nat}{fr:Int}{WS:List Iw}{aV:Option Addr}{B:List Nat}{QS:List Aq}{w0 w:World}(h:Sat ⟨w0,m,wdS n dp fr nP WS aV cV B QS⟩ w)(hd:n≤dp)(hB:∀ b∈B,n≤b):∀ c∈wdS n dp fr nP WS aV cV B QS,∀ b,c.F b→n≤b:=by
 intro x hx b hb
 have hh:=h.all x hx
 simp only[wdS,List.mem_cons,List.not_mem_nil,or_false]at hx
 rcases hx with rfl | rfl | rfl
 ·have hb':b=dp:=hb
  omega
 ·exact P5 hh b hb
 exact hB b hb
theorem pn_pos{c:Ai}(h:Ff c=AQ):1≤c.Aa.xs.length:=by
 have h2:=YJ h 3 (by rw[GM];omega)
 rw[VB (by decide)]at h2
 have:=Dz ((Ho (by decide)).1 (show Af (win (c.Aa.xs.length:Int) 1 8) 403 ⟨-1, -1⟩=AQ from h2))
 omega
theorem fz_low{c:Ai}:∀ i,NQ c≤Ec c i
 | 0=>Int.le_refl _
 | i+1=>by have:=fz_low (c:=c) i;rw[RV];omega
theorem place_in{c:Ai}(hG:Ad.Good c){q:Nat}(hq:q<c.Aa.xs.length):c.Kernel*16+26+24*(q:Int)≤c.Frames*16:=by
 have hok:=XB hG.err
 have h1:=(QW (Sz hok) _ (Nat.le_refl _)).1
 have h2:=fz_low (c:=c) c.Aa.xs.length
 have h3:=hG.need.2;have h4:=hG.kern
 unfold JC at h3
 rw[if_pos hok]at h3
 unfold NQ at h2
 unfold CV at h1
 omega
theorem gd_rep{n q:Nat}(h:q<n):gd (List.replicate n (0:Int)) q=0:=by rw[EW (by simpa using h)];simp
theorem mkV{c:Ai}(hF:Ff c=AQ){WS:List Iw}(hW:Zam c WS c.Aa.xs.length){p:Nat}(hp:p<c.Aa.xs.length)(n dp gV cV:Nat)(B:List Nat)(n2 mq gW cW cb:Nat)(W:List Int)(hcf:X7 (gd WS p).fa (gd WS p).fb (gd WS p).ca (gd c.Aa.xs p) cb)(hwl:W.length=c.Frames.toNat*16)(hcw:c.Frames.toNat*16≤cW)(hwI:∀ k,k<c.Frames.toNat*16→0≤gd W k∧gd W k<4294967296) :
   ∃ V:HV,(∀ W',KU V W'=wdS n dp c.Frames c.Aa.xs.length WS (some ⟨gV,0,none⟩) cV B c.Aa.xs++Xw n2 mq (some ⟨gW,0,none⟩) (c.Frames.toNat*16) cW W')∧V.dp=dp∧V.mq=mq∧V.p=p∧V.n=n∧V.n2=n2∧V.q=gd c.Aa.xs p∧(V.st:Int)=c.Kernel*16+21+24*(p:Int)∧(V.sv:Int)=c.Kernel*16+4+24*(p:Int)∧Ko V W:=by
 obtain⟨h1,h2,h3,h4,h5,ta,tn,tc,h6⟩:=hW.at_ p hp
 have hG:=Y5 hF
 have hk:=hG.kern;have hfr:=hG.fr;have hin:=place_in hG hp
 have hl:=hW.len
 refine⟨⟨n,dp,c.Frames,c.Aa.xs.length,WS,gV,cV,B,c.Aa.xs,n2,mq,gW,c.Frames.toNat*16,cW,p,(gd WS p).sv.toNat,(gd WS p).st.toNat,gd c.Aa.xs p,(gd WS p).lk,(gd WS p).rt,ta,tn,tc,(gd WS p).fa,(gd WS p).fb,(gd WS p).ca,cb⟩,fun _=>rfl,rfl,rfl,rfl,rfl,rfl,rfl, ?_, ?_, ?_⟩
 · show((gd WS p).st.toNat:Int)=_
   omega
 · show((gd WS p).sv.toNat:Int)=_
   omega
 · refine⟨by show p<WS.length;omega,hl, ?_,rfl,hcf,part_rng hF hp,hwl,by show c.Frames.toNat*16≤16384;omega,by show((c.Frames.toNat*16 / 16:Nat):Int)=c.Frames;omega,by show(gd WS p).sv.toNat+17=(gd WS p).st.toNat;omega,by show(gd WS p).st.toNat+5≤c.Frames.toNat*16;omega,hcw,hwI⟩
   show gd WS p=⟨(gd WS p).lk,((gd WS p).sv.toNat:Int),((gd WS p).st.toNat:Int),(gd WS p).rt,.slice ta tn tc,(gd c.Aa.xs p).Entry,(gd c.Aa.xs p).A7,(gd c.Aa.xs p).AV,(gd WS p).fa,(gd WS p).fb,(gd WS p).ca⟩
   rw[←h3,←h4,←h5,←h6,show((gd WS p).sv.toNat:Int)=(gd WS p).sv from by omega,show((gd WS p).st.toNat:Int)=(gd WS p).st from by omega]
theorem begun_words{V:HV}{W:List Int}(h:Ko V W):Ko V (Ie (O5 W V.st 5) V.sv (LH (NV V.q.Entry)))∧S5 (Ie (O5 W V.st 5) V.sv (LH (NV V.q.Entry))) V.st 0 0 0 0 0∧∀ k,k<17→gd (Ie (O5 W V.st 5) V.sv (LH (NV V.q.Entry))) (V.sv+k)=NV V.q.Entry k:=by
 have hl:=h.wl;have hs:=h.ss;have hn:=h.sn;have he:=h.rg.en
 have hf:=Zg (a:=V.st) h 5
 have hfl:=hf.wl
 have hcl:(LH (NV V.q.Entry)).length=17:=rfl
 have hge:∀ k,k<17→gd (LH (NV V.q.Entry)) k=NV V.q.Entry k:=fun k hk=>by
  unfold LH
  rw[EW (by simpa using hk)];simp
 have hz:∀ n k,k<n→V.st+n≤W.length→gd (O5 W V.st n) (V.st+k)=0:=by
  intro n
  induction n with
  | zero=>intro k hk;omega
  | succ n ih =>
   intro k hk hn
   have hfn:=UZ (W:=W) (a:=V.st) n
   show gd ((O5 W V.st n).set (V.st+n) 0) (V.st+k)=0
   by_cases e:k=n
   ·subst e;rw[MG (by omega)]
   rw[IZ (by omega) (by omega)];exact ih k (by omega) (by omega)
 have hout:∀ k,k<5→gd (Ie (O5 W V.st 5) V.sv (LH (NV V.q.Entry))) (V.st+k)=0:=fun k hk=>by
  rw[Qu (by omega) (by omega) (by omega)];exact hz 5 k hk (by omega)
 refine⟨hw_put hf (by omega) (fun k hk => ?_),⟨hout 0 (by decide),hout 1 (by decide),hout 2 (by decide),hout 3 (by decide),hout 4 (by decide)⟩,fun k hk => ?_⟩
 ·rw[hge k (by omega)]
  unfold NV
  split <;> omega
 rw[N9 (by omega) (by omega)];exact hge k hk
theorem memnew_calls(w:World)(nF:Nat)(hF1:1≤nF)(hF2:nF≤1024):Calls Tryd.prog 16 #[.int .i64 (nF:Int)] w fun e w'=>∃ mq aW cW,e = .returned (.tuple #[.pointer (some ⟨mq,0,none⟩),.int .i64 0])∧w.heap.size≤mq∧∃ w0,Sat ⟨w0,w'.heap.size,Xw w.heap.size mq aW (nF*16) cW (List.replicate (nF*16) 0)⟩ w'∧Ce (fun _=>False) w w':=by
 obtain⟨z,hz⟩:∃ z,z=w.heap.size:=⟨_,rfl⟩
 refine Bf (args:=[(Ac nF)]) 18 ⟨w,z,[(Ak w)]⟩ Tryd.func16 rfl (by kernel_rfl) (by kernel_rfl) (Ed hz) ?_
 refine Di [0] [(0,Ac nF)] ?_
 refine Au 14 2 [0] [[o0,o0],[o0,oF,o0,o0,oF,o0],[o0,(ov (i6 ((nF*16:Nat):Int)))]] [BF ((nF:Int)<1),BF ((nF:Int) > 1024),Wr ((nF:Int)*16) (((nF*16:Nat):Int))] [(12,i6 ((nF*16:Nat):Int))] rfl ⟨bf,bf,BP,Ae⟩ ?_
 refine Z9 z (nF*16) 0 (fun x:Int=>[Value.int .u32 x]) 38 1 4 (.int .u32 0) (((nF*16:Nat):Int):Int) (((nF*16:Nat):Int):Int) (some 13) rfl rfl (by omega) (show z≤z by omega) (fun n1 (hn2:z+1≤n1) => ?_)
 refine AZ 4 1 [] [[o0],[o0]] [] [(4,.slice (some ⟨z,0,none⟩) (nF*16) (nF*16)),(14,.slice (some ⟨z,0,none⟩) (nF*16) (nF*16))] rfl Ae ?_
 refine l_clear z 1 (List.replicate (nF*16) 0) 0 (fun x:Int=>[Value.int .u32 x]) 38 1 z (nF*16) (nF*16) (.int .u32 0) none rfl ?_
 refine EI 7 0 [] [[],[o0,o0,o0,o0,o0]] [] [(2,pt n1),(3,i6 0)] ⟨w,n1+1,[(Ak w),(BV z 38 1 (fun x:Int=>[Value.int .u32 x]) (.slice (some ⟨z,0,none⟩) (nF*16) (nF*16)) (List.replicate (nF*16) 0)),(bk n1 #[.slice (some ⟨z,0,none⟩) (nF*16) (nF*16)] 106)]⟩ rfl Ae ?_
 refine Az [] [] (.tuple #[pt n1,i6 0]) Ae ?_
 intro w3 hw3
 have h4:=hw3.pick [2,1] rfl rfl
 skip
 rw[←hz]
 exact⟨n1,(some ⟨z,0,none⟩),nF*16,rfl,(show z≤n1 by omega),w,by rw[hw3.size];exact h4,AB hw3⟩
section
variable (n2:Nat)(c:Ai)
abbrev quwf_0:=bk n2 #[i6 ((Ff c).Ag.First),i6 ((Ff c).Ag.Second)] 108
end
theorem ZF(w:World)(c:Ai)(hc:Ai.ok Any w c):Calls Tryd.prog 15 #[.agg (Ai.arr c)] w fun e w'=>((¬ (Ff c).e=0∧e = .returned (.tuple #[.pointer none,.int .i64 232]))∨((Ff c).e=0∧∃ b:Nat,e = .returned (.tuple #[.pointer (some ⟨b,0,none⟩),.int .i64 0])))∧Ce (fun _=>False) w w':=by
 obtain⟨z,hz⟩:∃ z,z=w.heap.size:=⟨_,rfl⟩
 refine Bf (args:=[.agg (Ai.arr c)]) 26 ⟨w,z,[(Ak w)]⟩ Tryd.func15 rfl (by kernel_rfl) (by kernel_rfl) (Ed hz) ?_
 refine Di [0] [(0,.agg (Ai.arr c))] ?_
 refine q_c 6 1 [] [[o0,o0,o0],[(an 7 1)]] [Qb z,Qb z,Qb z,Qb z,Qb z,Qb z,Qb z] [(1,pt z),(9,.agg (Ai.arr c))] ⟨w,z+1,[(Ak w),(bk z (Ai.arr c) 26)]⟩ rfl ⟨rfl,rfl,rfl,rfl,rfl,rfl,rfl,Ae⟩ ?_
 refine Ba 32 #[.agg (Ai.arr c)] (some 10) (.tuple #[i6 ((Ff c).e),.agg #[i6 ((Ff c).Ag.First),i6 ((Ff c).Ag.Second)]]) (fun w1 hw1=>rcheck_calls w1 c (hc.ext (hw1.ext rfl) (fun _ h=>h))) (fun n2 (hn3:z+1≤n2) => ?_)
 refine EI 4 0 [] [[o0,o0,o0,o0,o0,(an 2 2)]] [Qb n2,Qb n2] [(1,pt z),(4,i6 ((Ff c).e))] ⟨w,n2+1,[(Ak w),(bk z (Ai.arr c) 26),(quwf_0 n2 c)]⟩ rfl ⟨rfl,rfl,Ae⟩ ?_
 by_cases h4:((Ff c).e:Int)=0
 ·have hF:=ZY h4;have hG:=Y5 hF;have hGk:=hG.kern;have hGp:=hG.pn;have hGf:=hG.fr;have hcok:=XB hG.err
  refine Au 8 1 [0] [[o0,oF],[(an 7 1)]] [NF ((Ff c).e) 0,Qb z,Qb z,Qb z,Qb z,Qb z,Qb z,Qb z] [(1,pt z),(16,.agg (Ai.arr c))] rfl ⟨nf,rfl,rfl,rfl,rfl,rfl,rfl,rfl,Ae⟩ ?_
  refine l_call [] [] 12 #[.agg (Ai.arr c)] (some 17) Ae ?_
  intro w5 hw5
  refine(rof_yes w5 c (hc.ext (hw5.ext rfl) (fun _ h=>h)) hcok).mono ?_
  rintro e w6 ⟨lay7,rfl,hIlay7,hOlay7, -,hkw6⟩
  have hnw6:n2+1≤w6.heap.size:=Ef hw5 hkw6
  rw[hw5.size]at hOlay7;have hpllay7:lay7.Aa.xs.length=c.Aa.xs.length:=hIlay7.pl
  refine⟨_,_,rfl,hw5.U1 hkw6, ?_⟩
  refine EI 15 0 [0] [[o0,o0,o0,o0,(an 4 4),o0],[o0,o0],[(an 7 1),(an 4 4),o0,o0,o0,o0]] [Qb w6.heap.size,Qb w6.heap.size,Qb w6.heap.size,Qb w6.heap.size,Qb z,Qb z,Qb z,Qb z,Qb z,Qb z,Qb z,Qb w6.heap.size,Qb w6.heap.size,Qb w6.heap.size,Qb w6.heap.size] [(2,pt (w6.heap.size+1)),(3,i6 0)] ⟨w,w6.heap.size+2,[(Ak w),(bk z (Ai.arr c) 26),(quwf_0 n2 c),(mid (n2+1) w6),(.blk w6.heap.size (.cells (Ha.arr lay7) 58 (0,0)) true),(bk (w6.heap.size+1) #[i6 c.Frames,i6 c.Gg,i6 c.Kernel,i6 c.Room,.slice c.Bc.a c.Bc.xs.length c.Bc.cap,.slice c.Aa.a c.Aa.xs.length c.Aa.cap,.slice c.Aj.a c.Aj.xs.length c.Aj.cap,i6 lay7.SB,.slice lay7.Aa.a lay7.Aa.xs.length lay7.Aa.cap,.slice lay7.Aj.a lay7.Aj.xs.length lay7.Aj.cap,i6 lay7.End] 116)]⟩ rfl ⟨rfl,rfl,rfl,rfl,rfl,rfl,rfl,rfl,rfl,rfl,rfl,rfl,rfl,rfl,rfl,Ae⟩ ?_
  refine Az [] [] (.tuple #[pt (w6.heap.size+1),i6 0]) Ae ?_
  intro w8 hw8
  exact⟨.inr ⟨h4,_,rfl⟩,AB hw8⟩
 refine Au 9 0 [1] [[o0,oT],[o0,o0]] [NT ((Ff c).e) 0] [(2,.pointer none),(3,i6 232)] rfl ⟨nt,Ae⟩ ?_
 refine Az [] [] (.tuple #[.pointer none,i6 232]) Ae ?_
 intro w9 hw9
 exact⟨.inl ⟨h4,rfl⟩,AB hw9⟩
theorem hw_lo{n dp gV cV n2 mq gW nW cW m nP z:Nat}{fr:Int}{WS:List Iw}{B:List Nat}{QS:List Aq}{W:List Int}{w0 w:World}(h:Sat ⟨w0,m,wdS n dp fr nP WS (some ⟨gV,0,none⟩) cV B QS++Xw n2 mq (some ⟨gW,0,none⟩) nW cW W⟩ w)(h1:z≤dp)(h2:z≤n)(h3:z≤mq)(h4:z≤n2)(h5:∀ b∈B,z≤b):∀ c∈wdS n dp fr nP WS (some ⟨gV,0,none⟩) cV B QS++Xw n2 mq (some ⟨gW,0,none⟩) nW cW W,∀ b,c.F b→z≤b:=by
 intro x hx b hb
 have hh:=h.all x hx
 simp only[wdS,Xw,List.mem_append,List.mem_cons,List.not_mem_nil,or_false]at hx
 rcases hx with(rfl | rfl | rfl) | (rfl | rfl)
 ·have hb':b=dp:=hb
  omega
 ·exact Nat.le_trans h2 (P5 hh b hb)
 ·exact h5 b hb
 ·have hb':b=mq:=hb
  omega
 exact Nat.le_trans h4 (P5 hh b hb)
section
variable (w15:World)(dp3:Nat)(c:Ai)(b20 cp5:Nat)(mq16 b23:Nat)(cp18 z:Nat)(w12:World)(WS:List Iw)
abbrev q8j4_0:=bk (w15.heap.size+1) #[i6 0,i6 0,i6 0,i6 0,.slice none 0 0,.int .u32 0,.int .u32 0,.int .u32 0,.nilFunc,.nilFunc] 81
abbrev Xt:Ch:= .blk w15.heap.size (.cells #[i6 0,i6 0,i6 0,i6 0,.slice none 0 0,.int .u32 0,.int .u32 0,.int .u32 0,.nilFunc,.nilFunc] 81 (0,0)) true
abbrev UO:=bk dp3 #[i6 c.Frames,.slice (some ⟨b20,0,none⟩) c.Aa.xs.length cp5] 113
abbrev U3:=bk mq16 #[.slice (some ⟨b23,0,none⟩) (c.Frames.toNat*16) cp18] 106
abbrev Tf:=bk z (Ai.arr c) 26
abbrev Ut:=BV w12.heap.size 38 1 (fun x:Int=>[Value.int .u32 x]) (.slice (some ⟨b23,0,none⟩) (c.Frames.toNat*16) cp18) (List.replicate (c.Frames.toNat*16) 0)
abbrev UR:=BV (z+1) 81 10 Iw.cells (.slice (some ⟨b20,0,none⟩) c.Aa.xs.length cp5) WS
abbrev U8:=(8,pt w15.heap.size)
abbrev VG:=(0,pt dp3)
end
theorem begun_calls(w:World)(hL:Js w)(c:Ai)(hc:Ai.ok Any w c)(hS:c.Aa.xs.length+c.Aj.xs.length+c.Bc.xs.length≤15000000000000)(p:Int)(hpI:IG .i64 p):Calls Tryd.prog 6 #[.agg (Ai.arr c),.int .i64 p] w fun e w'=>((e = .returned (.tuple #[.pointer none,.pointer none,.bool false,.bool true]))∨(Ff c=AQ∧0≤p∧p<(c.Aa.xs.length:Int)∧∃ (V:HV) (W:List Int) (w0:World),e = .returned (.tuple #[.pointer (some ⟨V.dp,0,none⟩),.pointer (some ⟨V.mq,0,none⟩),.bool true,.bool true])∧Ko V W∧(V.p:Int)=p∧V.q=gd c.Aa.xs p.toNat∧(V.st:Int)=c.Kernel*16+21+24*p∧(V.sv:Int)=c.Kernel*16+4+24*p∧S5 W V.st 0 0 0 0 0∧(∀ k,k<17→gd W (V.sv+k)=NV V.q.Entry k)∧V.n≤w'.heap.size∧V.n2≤w'.heap.size∧(∀ d∈KU V W,∀ b,d.F b→w.heap.size≤b)∧Sat ⟨w0,w'.heap.size,KU V W⟩ w'))∧Ce (fun _=>False) w w':=by
 obtain⟨z,hz⟩:∃ z,z=w.heap.size:=⟨_,rfl⟩
 refine Bf (args:=[.agg (Ai.arr c),i6 p]) 67 ⟨w,z,[(Ak w)]⟩ Tryd.func6 rfl (by kernel_rfl) (by kernel_rfl) (Ed hz) ?_
 have hpK:(-9223372036854775808:Int)≤p∧p≤9223372036854775807:=hpI;have hpl:=hc.Aa.1.len
 refine Di [0,1] [(0,.agg (Ai.arr c)),(1,i6 p)] ?_
 refine q_c 6 1 [] [[o0,o0,o0,o0,o0],[(an 7 1)]] [Qb z,Qb z,Qb z,Qb z,Qb z,Qb z,Qb z] [(1,i6 p),(2,pt z),(16,.agg (Ai.arr c))] ⟨w,z+1,[(Ak w),(Tf c z)]⟩ rfl ⟨rfl,rfl,rfl,rfl,rfl,rfl,rfl,Ae⟩ ?_
 refine l_call [] [] 14 #[.agg (Ai.arr c)] (some 17) Ae ?_
 intro w1 hw1
 refine(hnew_calls w1 (hL.ext (hw1.ext rfl)) c (hc.ext (hw1.ext rfl) (fun _ h=>h)) hS).mono ?_
 rintro e w2 ⟨⟨hne,rfl⟩ | ⟨hF,dp3,WS,ax4,cp5,B,w6,rfl,hq1,hW,hBn,hOS⟩,hkw2⟩
 ·have hnw2:z+1≤w2.heap.size:=Ef hw1 hkw2
  refine⟨_,_,rfl,hw1.keeps hkw2, ?_⟩
  refine AZ 4 1 [] [[o0,o0,o0,o0,o0],[(an 7 1)]] [Qb z,Qb z,Qb z,Qb z,Qb z,Qb z,Qb z] [(1,i6 p),(2,pt z),(8,.pointer none),(9,i6 232),(21,.agg (Ai.arr c))] rfl ⟨rfl,rfl,rfl,rfl,rfl,rfl,rfl,Ae⟩ ?_
  refine l_call [] [] 15 #[.agg (Ai.arr c)] (some 22) Ae ?_
  intro w7 hw7
  refine(ZF w7 c (hc.ext (hw7.ext rfl) (fun _ h=>h))).mono ?_
  rintro e w8 ⟨⟨-,rfl⟩ | ⟨h0, -⟩,hkw8⟩;rotate_left;exact absurd h0 hne
  have hnw8:w2.heap.size≤w8.heap.size:=Ef hw7 hkw8
  refine⟨_,_,rfl,hw7.keeps hkw8, ?_⟩
  refine AZ 13 0 [1] [[o0,o0,o0,o0,o0],[o0,o0,o0,o0],[o0,o0,o0,o0,o0,o0,o0,o0,o0,o0,o0]] [] [(4,.pointer none),(5,.pointer none),(6,.bool false),(7,.bool true)] rfl Ae ?_
  refine Az [] [] (.tuple #[.pointer none,.pointer none,.bool false,.bool true]) Ae ?_
  intro w10 hw10
  exact⟨.inl rfl,AB hw10⟩
 have hnw2:z+1≤w2.heap.size:=Ef hw1 hkw2
 have hG:=Y5 hF;have hGf:=hG.fr;have hGp:=hG.pn;have hpos:=pn_pos hF;have hwl:=hW.len
 rw[show w1.heap.size=z+1 from hw1.size]at hq1 hOS hBn
 refine⟨_,_,rfl,hw1.XK hkw2 hOS (wdS_new hOS hq1 hBn), ?_⟩
 refine AZ 4 1 [] [[o0,o0,o0,o0,o0],[(an 7 1)]] [Qb z,Qb z,Qb z,Qb z,Qb z,Qb z,Qb z] [(1,i6 p),(2,pt z),(8,pt dp3),(9,i6 0),(21,.agg (Ai.arr c))] rfl ⟨rfl,rfl,rfl,rfl,rfl,rfl,rfl,Ae⟩ ?_
 refine l_call [] [] 15 #[.agg (Ai.arr c)] (some 22) Ae ?_
 intro w11 hw11
 refine(ZF w11 c (hc.ext (hw11.ext rfl) (fun _ h=>h))).mono ?_
 rintro e w12 ⟨⟨h0, -⟩ | ⟨-,b13,rfl⟩,hkw12⟩;exact absurd (by rw[hF];rfl) h0
 have hnw12:w2.heap.size≤w12.heap.size:=Ef hw11 hkw12
 refine⟨_,_,rfl,hw11.keeps hkw12, ?_⟩
 refine AZ 12 2 [0] [[o0,o0,o0,o0,o0],[o0,o0,o0,o0,o0,o0],[o0,(a1 1)]] [Qb z] [(1,i6 p),(2,pt z),(8,pt dp3),(40,i6 c.Frames)] rfl ⟨rfl,Ae⟩ ?_
 refine l_call [] [] 16 #[i6 c.Frames] (some 41) Ae ?_
 intro w14 hw14
 have hgo:=memnew_calls w14 c.Frames.toNat (by omega) (by omega);rw[show(c.Frames.toNat:Int)=c.Frames from by omega]at hgo
 refine hgo.mono ?_
 rintro e w15 ⟨mq16,ax17,cp18,rfl,hqw15,w19,hOw15,hkw15⟩
 have hnw15:w12.heap.size≤w15.heap.size:=Ef hw14 hkw15
 rw[show w14.heap.size=w12.heap.size from hw14.size]at hOw15 hqw15
 refine⟨_,_,rfl,hw14.XK hkw15 hOw15 (memS_new hOw15 hqw15), ?_⟩
 refine AZ 11 0 [0] [[o0,o0,o0,o0,o0],[o0,o0]] [] [(1,i6 p),(2,pt z),(8,pt dp3),(12,pt mq16),(45,.bool false)] rfl Ae ?_
 refine Nu (base:=(z+1)) (e:=81) (sz:=10) (cells:=Iw.cells) (a:=ax4) (n:=c.Aa.xs.length) (cap:=cp5) (xs:=WS) 3 (by first | omega | (simp;omega)) (fun b20 hg21 hb22 => ?_)
 subst hg21
 refine Nu (base:=w12.heap.size) (e:=38) (sz:=1) (cells:=(fun x:Int=>[Value.int .u32 x])) (a:=ax17) (n:=(c.Frames.toNat*16)) (cap:=cp18) (xs:=(List.replicate (c.Frames.toNat*16) 0)) 6 (by first | omega | (simp;omega)) (fun b23 hg24 hb25 => ?_)
 subst hg24
 refine g_rowcap (base:=w12.heap.size) (e:=38) (sz:=1) (cells:=(fun x:Int=>[Value.int .u32 x])) (a:=(some ⟨b23,0,none⟩)) (n:=(c.Frames.toNat*16)) (cap:=cp18) (xs:=(List.replicate (c.Frames.toNat*16) 0)) 6 (by simp) (fun hcw => ?_)
 by_cases hp:0≤p∧p<(c.Aa.xs.length:Int)
 ·refine Au 1 3 [] [[o0,o0,o0]] [] [(1,i6 p),(2,pt z),(8,pt dp3),(12,pt mq16),(46,pt dp3),(47,pt mq16),(48,i6 p)] rfl Ae ?_
  refine l_call [] [] 17 #[pt dp3,pt mq16,i6 p] (some 49) Ae ?_
  intro w26 hw26
  obtain⟨cb, -,hcf, -⟩:=(show ∀ j,j<WS.length→_ from hw26.at (i:=4) rfl) p.toNat (by omega)
  obtain⟨V,hVS,hVd,hVm,hVp,hVn,hVn2,hVq,hVst,hVsv,hVH⟩:=mkV hF hW (p:=p.toNat) (by omega) (z+1) dp3 b20 cp5 B w12.heap.size mq16 b23 cp18 cb (List.replicate (c.Frames.toNat*16) 0) hcf (by simp) hcw (fun k hk=>by rw[gd_rep hk];decide)
  have hq:=hw26.pick [2,3,4,5,6] rfl rfl
  have hgo:=begin_calls w26 w V (List.replicate (c.Frames.toNat*16) 0) (by rw[hVS,hw26.size];exact hq) _ rfl (by rw[hVn];have:=hw26.size;simp only[]at this;omega) (by rw[hVn2];have:=hw26.size;simp only[]at this;omega) hVH
  rw[hVd,hVm,hVp,show(p.toNat:Int)=p from by omega]at hgo
  refine hgo.mono ?_
  rintro e w27 ⟨rfl,hSw27,hkw27⟩
  have hnw27:w15.heap.size≤w27.heap.size:=Ef hw26 hkw27
  have hbl:∀ W',JY (KU V W')=JY (KU V (List.replicate (c.Frames.toNat*16) 0)):=fun W'=>WH
  rw[hVS]at hSw27 hkw27;rw[hVS]at hbl
  refine⟨_,_,rfl,hw26.turn [0,1] [2,3,4,5,6] rfl rfl rfl (by decide) (by have h9:=IB (V:=V) (W:=(List.replicate (c.Frames.toNat*16) 0));rw[hVS]at h9;exact h9) hkw27 (fun x9 hx9=>⟨hSw27.all x9 hx9,hSw27.Kq x9 hx9,fun b hb=>⟨hSw27.bnd x9 hx9 b hb,.inl (by have h9:=hbl (Ie (O5 (List.replicate (c.Frames.toNat*16) 0) V.st 5) V.sv (LH (NV V.q.Entry)));rw[hVS]at h9;have h10:JY _ b:=⟨x9,hx9,hb⟩;rw[h9]at h10;exact h10)⟩⟩) hSw27.Jq, ?_⟩
  refine AZ 15 0 [0] [[o0],[o0,oF,o0,o0,o0,(a1 1),o0,oF,o0],[o0,o0,o0,o0,o0,o0,o0,o0,o0,o0]] [BF ((p:Int)<0),Qb z,BF ((p:Int)≥(c.Aa.xs.length:Int))] [(4,pt dp3),(5,pt mq16),(6,.bool true),(7,.bool true)] rfl ⟨bf,rfl,bf,Ae⟩ ?_
  refine Az [] [] (.tuple #[pt dp3,pt mq16,.bool true,.bool true]) Ae ?_
  intro w28 hw28
  have h4:=hw28.pick [2,3,4,5,6] rfl rfl
  (try dsimp only at h4)
  obtain⟨hb1,hb2,hb3⟩:=begun_words hVH
  exact⟨.inr ⟨hF,hp.1,hp.2,V,_,w,by rw[hVd,hVm],hb1,by rw[hVp];omega,hVq,by rw[hVst];omega,by rw[hVsv];omega,hb2,hb3,by rw[hVn,hw28.size];show(z+1)≤w27.heap.size;omega,by rw[hVn2,hw28.size];show w12.heap.size≤w27.heap.size;omega,by rw[hVS];exact hw_lo h4 (show w.heap.size≤dp3 by omega) (show w.heap.size≤(z+1)by omega) (show w.heap.size≤mq16 by omega) (show w.heap.size≤w12.heap.size by omega) (fun b hb=>by have:=hBn b hb;omega),by rw[hVS,hw28.size];exact h4⟩,AB hw28⟩
 refine Au 1 3 [] [[o0,o0,o0]] [] [(1,i6 p),(2,pt z),(8,pt dp3),(12,pt mq16),(46,pt dp3),(47,pt mq16),(48,i6 p)] rfl Ae ?_
 refine l_call [] [] 17 #[pt dp3,pt mq16,i6 p] (some 49) Ae ?_
 intro w29 hw29
 refine Bf (args:=[pt dp3,pt mq16,i6 p]) 31 ⟨w,w15.heap.size,[(Ak w),(Tf c z),(UO dp3 c b20 cp5),(UR c b20 cp5 z WS),(Cm B WS c.Aa.xs),(U3 c mq16 b23 cp18),(Ut c b23 cp18 w12)]⟩ Tryd.func17 rfl (by kernel_rfl) (by kernel_rfl) hw29 ?_
 refine Au 6 3 [] [[o0],[o0,o0,o0]] [] [(VG dp3),(1,pt mq16),(2,i6 p),(10,pt dp3),(11,pt mq16),(12,i6 p)] rfl Ae ?_
 refine l_call [] [] 24 #[pt dp3,pt mq16,i6 p,.bool false] (some 13) Ae ?_
 intro w30 hw30
 refine Bf (args:=[pt dp3,pt mq16,i6 p,.bool false]) 50 ⟨w,w15.heap.size,[(Ak w),(Tf c z),(UO dp3 c b20 cp5),(UR c b20 cp5 z WS),(Cm B WS c.Aa.xs),(U3 c mq16 b23 cp18),(Ut c b23 cp18 w12)]⟩ Tryd.func24 rfl (by kernel_rfl) (by kernel_rfl) hw30 ?_
 refine q_c 12 0 [0] [[o0,o0],[o0,o0,o0,o0,o0,o0,o0]] [] [(VG dp3),(1,pt mq16),(2,i6 p),(3,.bool false),(U8 w15),(10,.bool false)] ⟨w,w15.heap.size+1,[(Ak w),(Tf c z),(UO dp3 c b20 cp5),(UR c b20 cp5 z WS),(Cm B WS c.Aa.xs),(U3 c mq16 b23 cp18),(Ut c b23 cp18 w12),(Xt w15)]⟩ rfl Ae ?_
 refine DZ 11 [0,1,2,3,4,5,6,7] [(Ak w),(Tf c z),(UO dp3 c b20 cp5),(UR c b20 cp5 z WS),(Cm B WS c.Aa.xs),(U3 c mq16 b23 cp18),(Ut c b23 cp18 w12),(Xt w15)] rfl rfl ?_
 refine Ci [(0,o0),(2,o0),(3,o0),(4,o0),(5,(a1 2))] [0,2,3,8,19,24] [Qb dp3] [true,false,true,true,true,true,false,false,false,false,false] [(VG dp3),(2,i6 p),(3,.bool false),(U8 w15),(19,pt mq16),(24,i6 c.Frames)] ⟨rfl,Ae⟩ ?_
 refine Bq 1 ?_
 refine FU [] [] 37 #[pt mq16] (some 20) (by as_aux_lemma=>kernel_rfl) rfl rfl Ae ?_
 intro w31 hw31
 refine Bf (args:=[pt mq16]) 11 ⟨w,w15.heap.size+1,[(Ak w),(Tf c z),(UO dp3 c b20 cp5),(UR c b20 cp5 z WS),(Cm B WS c.Aa.xs),(U3 c mq16 b23 cp18),(Ut c b23 cp18 w12),(Xt w15)]⟩ Tryd.func37 rfl (by kernel_rfl) (by kernel_rfl) hw31 ?_
 refine Au 17 0 [0] [[o0],[o0,o0],[o0,o0,o0,(a1 5),o0,(ov (i6 (((c.Frames.toNat*16) / 16:Nat):Int))),o0]] [Qb mq16,Wr (Int.tdiv ((((c.Frames.toNat*16):Nat):Int)) 16) ((((c.Frames.toNat*16) / 16:Nat):Int))] [(2,i6 (((c.Frames.toNat*16) / 16:Nat):Int))] rfl ⟨rfl,congrArg (Value.int .i64) (Me (by omega) (by omega) (by omega)),Ae⟩ ?_
 refine Az [] [] (i6 (((c.Frames.toNat*16) / 16:Nat):Int)) Ae ?_
 intro w32 hw32
 have hs33:=hw32
 refine⟨_,_,rfl,hs33,.inr (fun c hc=>hs33.all c (by first | exact hc | exact DW (is:=[0,1,2,3,4,5,6,7]) rfl c hc)), ?_⟩
 refine CY [0,2,3,8,24,20] [(VG dp3),(2,i6 p),(3,.bool false),(U8 w15),(24,i6 c.Frames),(20,i6 (((c.Frames.toNat*16) / 16:Nat):Int))] ?_
 refine Ci [(6,oF),(7,o0),(8,o0),(9,o0),(10,o0)] [0,2,8,18] [NF (((c.Frames.toNat*16) / 16:Nat):Int) c.Frames] (Dw 11 0) [(VG dp3),(2,i6 p),(U8 w15),(18,.bool false)] ⟨nf,Ae⟩ ?_
 refine CE ?_
 refine BI [0,2,8,18] [(VG dp3),(2,i6 p),(U8 w15),(18,.bool false)] ?_
 refine Gy <| Y1 <| CW ?_
 by_cases h34:(p:Int)<0
 ·refine Au 9 0 [1] [[o0,oT,o0,o0,o0],[o0,(an 10 7),o0]] [BT ((p:Int)<0),Qb w15.heap.size,Qb w15.heap.size,Qb w15.heap.size,Qb w15.heap.size,Qb w15.heap.size,Qb w15.heap.size,Qb w15.heap.size,Qb w15.heap.size,Qb w15.heap.size,Qb w15.heap.size] [(U8 w15),(9,i6 230)] rfl ⟨bt,rfl,rfl,rfl,rfl,rfl,rfl,rfl,rfl,rfl,rfl,Ae⟩ ?_
  refine Az [.at 7,.at 7,.at 7,.at 7,.at 7,.at 7,.at 7,.at 7,.at 7,.at 7] [Qb w15.heap.size,Qb w15.heap.size,Qb w15.heap.size,Qb w15.heap.size,Qb w15.heap.size,Qb w15.heap.size,Qb w15.heap.size,Qb w15.heap.size,Qb w15.heap.size,Qb w15.heap.size] (.tuple #[.agg #[i6 0,i6 0,i6 0,i6 0,.slice none 0 0,.int .u32 0,.int .u32 0,.int .u32 0,.nilFunc,.nilFunc],i6 230]) ⟨rfl,rfl,rfl,rfl,rfl,rfl,rfl,rfl,rfl,rfl,Ae⟩ ?_
  intro w35 hw35
  refine⟨_,_,rfl,hw35, ?_⟩
  refine EI 13 0 [1] [[o0,o0,o0,o0,(an 10 8),o0],[o0,o0],[o0,o0]] [Qb (w15.heap.size+1),Qb (w15.heap.size+1),Qb (w15.heap.size+1),Qb (w15.heap.size+1),Qb (w15.heap.size+1),Qb (w15.heap.size+1),Qb (w15.heap.size+1),Qb (w15.heap.size+1),Qb (w15.heap.size+1),Qb (w15.heap.size+1)] [(6,i6 230)] ⟨w,w15.heap.size+2,[(Ak w),(Tf c z),(UO dp3 c b20 cp5),(UR c b20 cp5 z WS),(Cm B WS c.Aa.xs),(U3 c mq16 b23 cp18),(Ut c b23 cp18 w12),(Xt w15),(q8j4_0 w15)]⟩ rfl ⟨rfl,rfl,rfl,rfl,rfl,rfl,rfl,rfl,rfl,rfl,Ae⟩ ?_
  refine Az [] [] (i6 230) Ae ?_
  intro w36 hw36
  refine⟨_,_,rfl,hw36, ?_⟩
  refine AZ 13 0 [1] [[o0],[o0,oT,o0,o0],[o0,o0,o0,o0,o0,o0]] [BT ((p:Int)<0)] [(4,.pointer none),(5,.pointer none),(6,.bool false),(7,.bool true)] rfl ⟨bt,Ae⟩ ?_
  refine Az [] [] (.tuple #[.pointer none,.pointer none,.bool false,.bool true]) Ae ?_
  intro w37 hw37
  exact⟨.inl rfl,AB hw37⟩
 refine Au 9 0 [1] [[o0,oF,o0,o0,o0,o0,o0,(a1 2),o0,oT,o0,o0],[o0,(an 10 7),o0]] [BF ((p:Int)<0),Qb dp3,BT ((p:Int)≥(c.Aa.xs.length:Int)),Qb w15.heap.size,Qb w15.heap.size,Qb w15.heap.size,Qb w15.heap.size,Qb w15.heap.size,Qb w15.heap.size,Qb w15.heap.size,Qb w15.heap.size,Qb w15.heap.size,Qb w15.heap.size] [(U8 w15),(9,i6 230)] rfl ⟨bf,rfl,bt,rfl,rfl,rfl,rfl,rfl,rfl,rfl,rfl,rfl,rfl,Ae⟩ ?_
 refine Az [.at 7,.at 7,.at 7,.at 7,.at 7,.at 7,.at 7,.at 7,.at 7,.at 7] [Qb w15.heap.size,Qb w15.heap.size,Qb w15.heap.size,Qb w15.heap.size,Qb w15.heap.size,Qb w15.heap.size,Qb w15.heap.size,Qb w15.heap.size,Qb w15.heap.size,Qb w15.heap.size] (.tuple #[.agg #[i6 0,i6 0,i6 0,i6 0,.slice none 0 0,.int .u32 0,.int .u32 0,.int .u32 0,.nilFunc,.nilFunc],i6 230]) ⟨rfl,rfl,rfl,rfl,rfl,rfl,rfl,rfl,rfl,rfl,Ae⟩ ?_
 intro w38 hw38
 refine⟨_,_,rfl,hw38, ?_⟩
 refine EI 13 0 [1] [[o0,o0,o0,o0,(an 10 8),o0],[o0,o0],[o0,o0]] [Qb (w15.heap.size+1),Qb (w15.heap.size+1),Qb (w15.heap.size+1),Qb (w15.heap.size+1),Qb (w15.heap.size+1),Qb (w15.heap.size+1),Qb (w15.heap.size+1),Qb (w15.heap.size+1),Qb (w15.heap.size+1),Qb (w15.heap.size+1)] [(6,i6 230)] ⟨w,w15.heap.size+2,[(Ak w),(Tf c z),(UO dp3 c b20 cp5),(UR c b20 cp5 z WS),(Cm B WS c.Aa.xs),(U3 c mq16 b23 cp18),(Ut c b23 cp18 w12),(Xt w15),(q8j4_0 w15)]⟩ rfl ⟨rfl,rfl,rfl,rfl,rfl,rfl,rfl,rfl,rfl,rfl,Ae⟩ ?_
 refine Az [] [] (i6 230) Ae ?_
 intro w39 hw39
 refine⟨_,_,rfl,hw39, ?_⟩
 refine AZ 13 0 [1] [[o0],[o0,oF,o0,o0,o0,(a1 1),o0,oT,o0],[o0,o0,o0,o0,o0,o0]] [BF ((p:Int)<0),Qb z,BT ((p:Int)≥(c.Aa.xs.length:Int))] [(4,.pointer none),(5,.pointer none),(6,.bool false),(7,.bool true)] rfl ⟨bf,rfl,bt,Ae⟩ ?_
 refine Az [] [] (.tuple #[.pointer none,.pointer none,.bool false,.bool true]) Ae ?_
 intro w40 hw40
 exact⟨.inl rfl,AB hw40⟩
end Go.Proofs.YtlccogilgegnfaaDoor.Hx
namespace Go.Proofs.YtlccogilgegnfaaDoor.Eng
open Go Go.Proofs.YtlccogilgegnfaaDoor.Mem
set_option linter.unusedSimpArgs false
set_option linter.unusedVariables false
theorem run_partA{P:Program}{t e:TypeId}{n:Nat}{cs:Array Value}{off:Nat}(hd:P.underlying t=some (.array n e))(w:World):(part t cs off).run P w = .ok (.agg (cs.extract off (off+P.cellsOf t))) w:=by
 have hagg:∀ w,(isAgg t).run P w = .ok true w:=by
  intro w
  simp[isAgg,underlying,program,Sem.run,hd]
 obtain⟨ti,hi, -⟩:∃ ti,P.info? t=some ti∧True:=by
  cases h:P.info? t with
  | none=>simp[Program.underlying,h]at hd
  | some ti=>exact⟨ti,rfl,Ae⟩
 simp[part,hagg,Sem.run_bind,run_sizeOf w hi,Program.cellsOf,hi]
theorem eqIs_refl{xs:Array Value}:∀ (is:List Nat),(∀ i∈is,∃ k a,xs[i]? = some (.int k a))→Za xs xs is=some true
 | [],_=>rfl
 | i :: is,h=>by
  obtain⟨k,a,ha⟩:=h i (List.mem_cons_self ..)
  have ih:=eqIs_refl is (fun j hj=>h j (List.mem_cons_of_mem _ hj))
  unfold Za
  rw[ha,ih]
  simp
theorem run_eqSelf {P : Program} {t e : TypeId} {f0 f1 : Field} {n : Nat} {k0 k1 : IntKind} {xs : Array Value} (hf : P.fieldsOf t = #[f0, f1]) (hu : P.underlying t = some (.struct (P.fieldsOf t))) (hp : P.stoodInHeld t = false) (hn0 : (f0.name == "_") = false) (hn1 : (f1.name == "_") = false) (hu0 : P.underlying f0.type = some (.array n e)) (hm : P.cellsOf f0.type = n) (he : P.underlying e = some (.int k0)) (hc : P.cellsOf e = 1) (hu1 : P.underlying f1.type = some (.int k1))
   (hx0:∀ j,j<n→∃ k a,(xs.extract f0.offset (f0.offset+n))[j]? = some (.int k a)) (hx1:∃ k a,xs[f1.offset]? = some (.int k a)) (w:World):(Op.equalIn 10000 t (.agg xs) (.agg xs)).run P w = .ok true w:=by
 obtain⟨k,a,hx1⟩:=hx1
 obtain⟨i,hi⟩:∃ i,P.info? e=some i:=by
   cases h:P.info? e with
   | none=>simp[Program.underlying,h]at he
   | some i=>exact⟨i,rfl⟩
 rw[←hm]at hx0
 rw[show(10000:Nat)=9999+1 from rfl,run_equalIn_agg (P:=P) w 9999 t xs xs hu hp,hf]
 have h0 : f0.name ≠ "_" := by simpa using hn0
 have h1 : f1.name ≠ "_" := by simpa using hn1
 have e0:(Op.equalIn 9999 f0.type (.agg (xs.extract f0.offset (f0.offset+P.cellsOf f0.type))) (.agg (xs.extract f0.offset (f0.offset+P.cellsOf f0.type)))).run P w = .ok true w:=by
   rw[show(9999:Nat)=9998+1 from rfl,run_equalIn_array (P:=P) w 9998 _ _ hu0 hi,hc]
   exact YV he 9997 _ _ (eqIs_refl _ (fun j hj=>hx0 j (by rw[hm];exact List.mem_range.1 hj))) w
 have e1:(Op.equalIn 9999 f1.type (.int k a) (.int k a)).run P w = .ok (a==a) w:=run_equalIn_int w 9998 f1.type _ _ a a hu1
 have p1:=OA (P:=P) hu1 (by simp) (by simp) hx1 w
 show(Op.eqFields 9999 xs xs [f0,f1]).run P w=_
 rw[Op.eqFields]
 simp only[if_pos h0,Sem.run_bind,run_partA hu0,e0,Result.andThen_ok,Bool.not_true,Bool.false_eq_true,if_false]
 rw[Op.eqFields]
 simp only[if_pos h1,Sem.run_bind,p1,e1,Result.andThen_ok]
 simp[Op.eqFields]
section
variable {P:Program}{N:Nat}{env:Env}{ds:List Deferred}{A:AW}{ops:Array Oper}{l:List Oper}{s:List Kt}{Q:Exit→Act→World→Prop}
def eqcA(P:Program)(N:Nat)(ops:Array Oper)(env:Env)(o:Oper):Option (Bool×TypeId×Value×Value×Option Nat):=match o.op,Oc ops env o,Ld env o,Oa N o.dst with
 | .binOp .eql t x y _,some true,true,true=>match P.eqGuardType P.depth t with
  | false=>some (true,t,IR env x,IR env y,o.dst)
  | true=>none
 | .binOp .neq t x y _,some true,true,true=>match P.eqGuardType P.depth t with
  | false=>some (false,t,IR env x,IR env y,o.dst)
  | true=>none
 | _,_,_,_=>none
theorem l_eqS(r:Bool)(t:TypeId)(xs ys:Array Value)(d:Option Nat)(hxy:xs=ys)(hrun:∀ w,(Op.equalIn 10000 t (.agg ys) (.agg ys)).run P w = .ok true w)(K:Lg P N (Ig env d (.bool r)) ds A ops (l.drop 1) s Q)
   (h:(match l with | o :: _=>eqcA P N ops env o | []=>none)=some (r,t,.agg xs,.agg ys,d):=by as_aux_lemma=>kernel_rfl):Lg P N env ds A ops l s Q:=by
 subst hxy
 intro a w hst
 cases l with
 | nil=>cases h
 | cons o l =>
   simp only[eqcA]at h
   split at h
   · rename_i t' x y t2 hop hw hk hd
     split at h
     · rename_i hm
       simp only[Option.some.injEq,Prod.mk.injEq]at h
       obtain⟨rfl,rfl,hx,hy,rfl⟩:=h
       have hr:(execOp a.eval o).run P w = .ok (.value (.bool true)) w:=by
         rw[Ir hst hk]
         simp[execOp,hop,hx,hy,run_eqGuard_agg (P:=P) w .eql t' x y xs xs hm,run_eql_struct,hrun w,Sem.run,Result.andThen]
       refine KE (FN hw hst) (.inl hr) ?_
       exact K _ _ (hst.put hst.mem _ hd _)
     · cases h
   · rename_i t' x y t2 hop hw hk hd
     split at h
     · rename_i hm
       simp only[Option.some.injEq,Prod.mk.injEq]at h
       obtain⟨rfl,rfl,hx,hy,rfl⟩:=h
       have hr:(execOp a.eval o).run P w = .ok (.value (.bool false)) w:=by
         rw[Ir hst hk]
         simp[execOp,hop,hx,hy,run_eqGuard_agg (P:=P) w .neq t' x y xs xs hm,run_neq_struct,hrun w,Sem.run,Result.andThen]
       refine KE (FN hw hst) (.inl hr) ?_
       exact K _ _ (hst.put hst.mem _ hd _)
     · cases h
   · cases h
end
end Go.Proofs.YtlccogilgegnfaaDoor.Eng
namespace Go.Proofs.YtlccogilgegnfaaDoor.Hx
open Go Go.Proofs.YtlccogilgegnfaaDoor.Eng Go.Proofs.YtlccogilgegnfaaDoor.Mem Go.Proofs.YtlccogilgegnfaaDoor.Ly Go.Proofs.YtlccogilgegnfaaDoor.Ad
set_option linter.unusedSimpArgs false
set_option linter.unusedVariables false
set_option maxRecDepth 100000
theorem rg_zero{V:HV}{W:List Int}(h:Ko V W):Rg V.q 0 0 0 0 0:=by
 have h1:=h.rg.re;have h2:=h.rg.ou
 exact⟨by decide,⟨by decide,by omega⟩,by decide,fun _=>rfl,by decide,⟨by decide,by omega⟩,fun e=>absurd e (by decide)⟩
theorem ctx_ints(f:Nat→Int)(j:Nat)(hj:j<16):∃ k a,((I5 f).extract 0 (0+16))[j]? = some (.int k a):=by
 refine⟨.u32,f j, ?_⟩
 have e:I5 f=((List.range 17).map fun k=>Value.int .u32 (f k)).toArray:=rfl
 rw[e,Array.getElem?_extract]
 have h1:j<17:=by omega
 simp[hj,h1]
theorem ctx_16(f:Nat→Int):(I5 f)[16]? = some (.int .u32 (f 16)):=rfl
theorem eq_ctx(f:Nat→Int)(w:World):(Op.equalIn 10000 41 (.agg (I5 f)) (.agg (I5 f))).run Tryd.prog w = .ok true w :=
 run_eqSelf (f0 := { name := "Regs", type := 39, offset := 0, embedded := false, tag := "", pkgPath := "", byteOffset := 0 }) (f1 := { name := "PC", type := 38, offset := 16, embedded := false, tag := "", pkgPath := "", byteOffset := 64 }) (n := 16) (e := 38) (k0 := .u32) (k1 := .u32) (by kernel_rfl) (by kernel_rfl) (by kernel_rfl) (by kernel_rfl) (by kernel_rfl) (by kernel_rfl) (by kernel_rfl) (by kernel_rfl) (by kernel_rfl) (by kernel_rfl)
  (fun j hj=>ctx_ints f j hj) ⟨.u32,f 16,ctx_16 f⟩ w
theorem Zbb{f g:Nat→Int}(h:∀ k,k<17→f k=g k):I5 f=I5 g:=by
 show(#[.int .u32 (f 0),.int .u32 (f 1),.int .u32 (f 2),.int .u32 (f 3),.int .u32 (f 4),.int .u32 (f 5),.int .u32 (f 6),.int .u32 (f 7),.int .u32 (f 8),.int .u32 (f 9),.int .u32 (f 10),.int .u32 (f 11),.int .u32 (f 12),.int .u32 (f 13),.int .u32 (f 14),.int .u32 (f 15),.int .u32 (f 16)]:Array Value) = #[.int .u32 (g 0),.int .u32 (g 1),.int .u32 (g 2),.int .u32 (g 3),.int .u32 (g 4),.int .u32 (g 5),.int .u32 (g 6),.int .u32 (g 7),.int .u32 (g 8),.int .u32 (g 9),.int .u32 (g 10),.int .u32 (g 11),.int .u32 (g 12),.int .u32 (g 13),.int .u32 (g 14),.int .u32 (g 15),.int .u32 (g 16)]
 rw[h 0 (by decide),h 1 (by decide),h 2 (by decide),h 3 (by decide),h 4 (by decide),h 5 (by decide),h 6 (by decide),h 7 (by decide),h 8 (by decide),h 9 (by decide),h 10 (by decide),h 11 (by decide),h 12 (by decide),h 13 (by decide),h 14 (by decide),h 15 (by decide),h 16 (by decide)]
theorem ld_saved{V:HV}{W W':List Int}(hH:Ko V W){f fn:Nat→Int}{s:Int}(hfn:fn=fun k=>gd W' (V.sv+k))(hWn:W'=if s=1 then(Ie W V.sv (LH f)).set V.st 0 else Ie W V.sv (LH f)):∀ k,k<17→fn k=f k:=by
 intro k hk
 have hl:=hH.wl;have hn:=hH.sn;have hs:=hH.ss
 have hlen:(LH f).length=17:=rfl
 have hpl:(Ie W V.sv (LH f)).length=W.length:=Um (by omega)
 have hg:gd (LH f) k=f k:=by
  unfold LH
  rw[EW (by simpa using hk)];simp
 have h1:gd (Ie W V.sv (LH f)) (V.sv+k)=f k:=by rw[N9 (by omega) (by omega)];exact hg
 rw[hfn]
 show gd W' (V.sv+k)=f k
 rw[hWn]
 split
 ·rw[IZ (by omega) (by omega)];exact h1
 exact h1
theorem ent_rng:∀ k,k<17→0≤NV 77 k∧NV 77 k<4294967296:=fun k _=>by unfold NV;split <;> omega
section
variable (w18:World)(y29:Aq)(w55:World)(s r:Int)(t pc:Int)(V:HV)(fn19:Nat→Int)(z:Nat)(c:Ai)(xf:Nat→Int)(sc:Sl Ox)
abbrev RJ:=bk (w18.heap.size+1) #[.int .u32 0,.int .u32 0,.int .u32 0,.int .u32 0,.int .u32 0,.int .u32 0,.int .u32 0,.int .u32 0,.int .u32 0,.int .u32 0,.int .u32 0,.int .u32 0,.int .u32 0,.int .u32 0,.int .u32 0,.int .u32 0,.int .u32 y29.Entry] 41
abbrev q57v_1:Ch:= .blk w55.heap.size (.cells #[i6 s,i6 r,i6 t,.int .u32 pc,i6 0] 45 (0,0)) true
abbrev Qs:Ch:= .blk V.dp (.cells #[i6 V.fr,.slice (some ⟨V.gV,0,none⟩) V.nP V.cV] 113 (0,0)) true
abbrev Qk:Ch:= .blk V.mq (.cells #[.slice (some ⟨V.gW,0,none⟩) V.nW V.cW] 106 (0,0)) true
abbrev Qr:Ch:= .blk w18.heap.size (.cells (I5 fn19) 41 (0,0)) true
abbrev MB:=bk z (Ai.arr c) 26
abbrev NL:=bk (z+1) (I5 xf) 41
abbrev Qe:=BV V.n 81 10 Iw.cells (.slice (some ⟨V.gV,0,none⟩) V.nP V.cV) V.WS
abbrev NJ:=(15,pt (w18.heap.size+1))
abbrev Qa:=(68,Ac sc.xs.length)
abbrev Hl:=(7,pt (z+1))
abbrev Jk:D7:=(2,.slice sc.a sc.xs.length sc.cap)
abbrev Lh:=(8,pt V.dp)
abbrev Lm:=(9,pt V.mq)
end
theorem back_calls(w:World)(hL:Js w)(c:Ai)(hc:Ai.ok Any w c)(hS:c.Aa.xs.length+c.Aj.xs.length+c.Bc.xs.length≤15000000000000)(p:Int)(hpI:IG .i64 p)(sc:Sl Ox)(hsc:Nh Ox.cells 23 (fun _ _ x=>Ox.ok x) Any w sc):Calls Tryd.prog 4 #[.agg (Ai.arr c),.int .i64 p,.slice sc.a sc.xs.length sc.cap] w fun e w'=>e = .returned (.bool true)∧Ce (fun _=>False) w w':=by
 obtain⟨z,hz⟩:∃ z,z=w.heap.size:=⟨_,rfl⟩
 refine Bf (args:=[.agg (Ai.arr c),i6 p,.slice sc.a sc.xs.length sc.cap]) 139 ⟨w,z,[(Ak w)]⟩ Tryd.func4 rfl (by kernel_rfl) (by kernel_rfl) (Ed hz) ?_
 have hpK:(-9223372036854775808:Int)≤p∧p≤9223372036854775807:=hpI;have hpl:=hc.Aa.1.len;have hscl:=hsc.1.len
 refine Di [0,1,2] [(0,.agg (Ai.arr c)),(1,i6 p),(Jk sc)] ?_
 refine q_c 8 0 [] [[o0,o0],[o0,o0,(an 17 2)]] [Qb (z+1),Qb (z+1),Qb (z+1),Qb (z+1),Qb (z+1),Qb (z+1),Qb (z+1),Qb (z+1),Qb (z+1),Qb (z+1),Qb (z+1),Qb (z+1),Qb (z+1),Qb (z+1),Qb (z+1),Qb (z+1),Qb (z+1)] [(1,i6 p),(Jk sc),(3,pt z),(Hl z)] ⟨w,z+2,[(Ak w),(MB z c),(bk (z+1) #[.int .u32 0,.int .u32 0,.int .u32 0,.int .u32 0,.int .u32 0,.int .u32 0,.int .u32 0,.int .u32 0,.int .u32 0,.int .u32 0,.int .u32 0,.int .u32 0,.int .u32 0,.int .u32 0,.int .u32 0,.int .u32 0,.int .u32 77] 41)]⟩ rfl ⟨rfl,rfl,rfl,rfl,rfl,rfl,rfl,rfl,rfl,rfl,rfl,rfl,rfl,rfl,rfl,rfl,rfl,Ae⟩ ?_
 refine UU (fun a w'=>∃ (n1:Nat) (xf:Nat→Int),z+2≤n1∧(∀ k,k<17→0≤xf k∧xf k<4294967296)∧St 139 [(1,i6 p),(Jk sc),(3,pt z),(Hl z)] [] ⟨w,n1,[(Ak w),(MB z c),(NL z xf)]⟩ a w') ?_ ?_
 ·refine CW ?_
  by_cases h3:(0:Int)<(sc.xs.length:Int)
  ·refine Au 4 0 [1] [[o0,o0,oT]] [BT ((sc.xs.length:Int) > 0)] [(1,i6 p),(Jk sc),(3,pt z),(Hl z),(28,.bool true)] rfl ⟨bt,Ae⟩ ?_
   obtain⟨b4,o5,ha6,hF8,hc7⟩:=(hsc).1.all (show 0<sc.xs.length by omega)
   replace ha6:sc.a=some ⟨b4,o5,none⟩:=ha6
   refine Lj [(1,i6 p),(2,.slice (some ⟨b4,o5,none⟩) sc.xs.length sc.cap),(3,pt z),(Hl z),(28,.bool true)] (by(try dsimp only[MB,NL,Hl,Jk]);simp only[ha6]) ?_
   have hc9:=hc7 0 (show 0<sc.xs.length by omega)
   have he10:=(hsc).2 0 (show 0<sc.xs.length by omega)
   obtain⟨y11,hy11⟩:∃ y_,y_=gd sc.xs 0:=⟨_,rfl⟩
   rw[←hy11]at he10 hc9
   have hoxy11:=he10.x
   refine q_c 2 0 [] [[o0,(oi 0),o0,(oa [.via 0 (.int .u32 (y11.x 0)),.via 0 (.int .u32 (y11.x 1)),.via 0 (.int .u32 (y11.x 2)),.via 0 (.int .u32 (y11.x 3)),.via 0 (.int .u32 (y11.x 4)),.via 0 (.int .u32 (y11.x 5)),.via 0 (.int .u32 (y11.x 6)),.via 0 (.int .u32 (y11.x 7)),.via 0 (.int .u32 (y11.x 8)),.via 0 (.int .u32 (y11.x 9)),.via 0 (.int .u32 (y11.x 10)),.via 0 (.int .u32 (y11.x 11)),.via 0 (.int .u32 (y11.x 12)),.via 0 (.int .u32 (y11.x 13)),.via 0 (.int .u32 (y11.x 14)),.via 0 (.int .u32 (y11.x 15)),.via 0 (.int .u32 (y11.x 16))]),(an 17 2)]] [(0:Int)=((0:Nat):Int),0<sc.xs.length,BM,Old w b4 (o5+4) (.int .u32 (y11.x 0)),Old w b4 (o5+4+1) (.int .u32 (y11.x 1)),Old w b4 (o5+4+2) (.int .u32 (y11.x 2)),Old w b4 (o5+4+3) (.int .u32 (y11.x 3)),Old w b4 (o5+4+4) (.int .u32 (y11.x 4)),Old w b4 (o5+4+5) (.int .u32 (y11.x 5)),Old w b4 (o5+4+6) (.int .u32 (y11.x 6)),Old w b4 (o5+4+7) (.int .u32 (y11.x 7)),Old w b4 (o5+4+8) (.int .u32 (y11.x 8)),Old w b4 (o5+4+9) (.int .u32 (y11.x 9)),Old w b4 (o5+4+10) (.int .u32 (y11.x 10)),Old w b4 (o5+4+11) (.int .u32 (y11.x 11)),Old w b4 (o5+4+12) (.int .u32 (y11.x 12)),Old w b4 (o5+4+13) (.int .u32 (y11.x 13)),Old w b4 (o5+4+14) (.int .u32 (y11.x 14)),Old w b4 (o5+4+15) (.int .u32 (y11.x 15)),Old w b4 (o5+4+16) (.int .u32 (y11.x 16)),Qb (z+1),Qb (z+1),Qb (z+1),Qb (z+1),Qb (z+1),Qb (z+1),Qb (z+1),Qb (z+1),Qb (z+1),Qb (z+1),Qb (z+1),Qb (z+1),Qb (z+1),Qb (z+1),Qb (z+1),Qb (z+1),Qb (z+1)] [(1,i6 p),(2,.slice (some ⟨b4,o5,none⟩) sc.xs.length sc.cap),(3,pt z),(Hl z)] ⟨w,z+2,[(Ak w),(MB z c),(bk (z+1) #[.int .u32 (y11.x 0),.int .u32 (y11.x 1),.int .u32 (y11.x 2),.int .u32 (y11.x 3),.int .u32 (y11.x 4),.int .u32 (y11.x 5),.int .u32 (y11.x 6),.int .u32 (y11.x 7),.int .u32 (y11.x 8),.int .u32 (y11.x 9),.int .u32 (y11.x 10),.int .u32 (y11.x 11),.int .u32 (y11.x 12),.int .u32 (y11.x 13),.int .u32 (y11.x 14),.int .u32 (y11.x 15),.int .u32 (y11.x 16)] 41)]⟩ rfl ⟨rfl,(by omega),rfl,Aw (hc9 4 _ rfl),Aw (hc9 5 _ rfl),Aw (hc9 6 _ rfl),Aw (hc9 7 _ rfl),Aw (hc9 8 _ rfl),Aw (hc9 9 _ rfl),Aw (hc9 10 _ rfl),Aw (hc9 11 _ rfl),Aw (hc9 12 _ rfl),Aw (hc9 13 _ rfl),Aw (hc9 14 _ rfl),Aw (hc9 15 _ rfl),Aw (hc9 16 _ rfl),Aw (hc9 17 _ rfl),Aw (hc9 18 _ rfl),Aw (hc9 19 _ rfl),Aw (hc9 20 _ rfl),rfl,rfl,rfl,rfl,rfl,rfl,rfl,rfl,rfl,rfl,rfl,rfl,rfl,rfl,rfl,rfl,rfl,Ae⟩ ?_
   refine GH [1,2,3,7] [(1,i6 p),(Jk sc),(3,pt z),(Hl z)] (by(try dsimp only[MB,NL,Hl,Jk]);simp only[ha6];rfl) ?_
   refine BR (fun a w' hs=>⟨(z+2),y11.x,by omega,hoxy11,hs⟩)
  refine Au 5 0 [0] [[o0,o0,oF]] [BF ((sc.xs.length:Int) > 0)] [(1,i6 p),(Jk sc),(3,pt z),(Hl z)] rfl ⟨bf,Ae⟩ ?_
  refine BR (fun a w' hs=>⟨(z+2),(NV 77),by omega,ent_rng,hs⟩)
 rintro a w' ⟨n1,xf,hn2,hxr,hs⟩
 refine(?_:G Tryd.prog 139 [(1,i6 p),(Jk sc),(3,pt z),(Hl z)] [] ⟨w,n1,[(Ak w),(MB z c),(NL z xf)]⟩ _ _ _) a w' hs
 clear hs a w'
 refine Au 2 2 [] [[(an 7 1),o0]] [Qb z,Qb z,Qb z,Qb z,Qb z,Qb z,Qb z] [(1,i6 p),(Jk sc),(3,pt z),(Hl z),(34,.agg (Ai.arr c)),(35,i6 p)] rfl ⟨rfl,rfl,rfl,rfl,rfl,rfl,rfl,Ae⟩ ?_
 refine l_call [] [] 6 #[.agg (Ai.arr c),i6 p] (some 36) Ae ?_
 intro w12 hw12
 refine(begun_calls w12 (hL.ext (hw12.ext rfl)) c (hc.ext (hw12.ext rfl) (fun _ h=>h)) hS p hpI).mono ?_
 rintro e w13 ⟨rfl | ⟨hF,hp1,hp2,V,W,w14,rfl,hH,hVp,hVq,hVst,hVsv,h5,hsvw,hn1,hn2,hnw,hOS⟩,hkw13⟩
 ·have hnw13:n1≤w13.heap.size:=Ef hw12 hkw13
  refine⟨_,_,rfl,hw12.keeps hkw13, ?_⟩
  refine AZ 13 0 [1] [[o0,o0,o0,o0,o0,o0,o0,o0,o0],[o0,o0],[o0,o0]] [] [(6,.bool true)] rfl Ae ?_
  refine Az [] [] (.bool true) Ae ?_
  intro w15 hw15
  exact⟨rfl,AB hw15⟩
 have hnw13:n1≤w13.heap.size:=Ef hw12 hkw13
 have hR:=rg_zero hH;have hq1:=hH.rg.en;have hq2:=hH.rg.ac;have hq3:=hH.rg.re;have hq4:=hH.rg.ou;have hwl:=hH.wl;have hwn:=hH.wn;have hsn:=hH.sn;have hss:=hH.ss
 rw[show w12.heap.size=n1 from hw12.size]at hnw
 refine⟨_,_,rfl,hw12.XK hkw13 hOS hnw, ?_⟩
 refine AZ 12 3 [0] [[o0,o0,o0,o0,o0,o0,o0,o0,o0],[o0,o0],[o0,o0,o0]] [] [(1,i6 p),(Jk sc),(3,pt z),(Hl z),(Lh V),(Lm V),(45,pt V.dp),(46,pt V.mq),(47,i6 p)] rfl Ae ?_
 refine l_call [] [] 10 #[pt V.dp,pt V.mq,i6 p] (some 48) Ae ?_
 intro w16 hw16
 have hq17:=hw16.pick [3,4,5,6,7] rfl rfl
 have hgo:=WB w16 w V W (by rw[hw16.size];exact hq17) _ rfl (by have:=hw16.size;simp only[]at this;omega) (by have:=hw16.size;simp only[]at this;omega) hH 0 0 0 0 0 h5 hR
 rw[hVp]at hgo
 refine hgo.mono ?_
 rintro e w18 ⟨fn19,dn20,Wn21,rfl,⟨hs2, -⟩ | ⟨-,hfnfn19,rfl,hWn⟩,hSw18,hkw18⟩
 ·exact absurd hs2 (by decide)
 rw[if_neg (by decide)]at hWn;replace hWn:=hWn.symm;subst hWn
 have hnw18:w13.heap.size≤w18.heap.size:=Ef hw16 hkw18
 refine⟨_,_,rfl,hw16.turn [0,1,2] [3,4,5,6,7] rfl rfl rfl (by decide) (IB (V:=V)) hkw18 (fun c hc=>⟨hSw18.all c hc,hSw18.Kq c hc,fun b hb=>⟨hSw18.bnd c hc b hb,Oy c hc b hb⟩⟩) hSw18.Jq, ?_⟩
 refine EI 3 0 [] [[o0,o0,o0,o0,o0,(an 17 8),o0,o0]] [Qb w18.heap.size,Qb w18.heap.size,Qb w18.heap.size,Qb w18.heap.size,Qb w18.heap.size,Qb w18.heap.size,Qb w18.heap.size,Qb w18.heap.size,Qb w18.heap.size,Qb w18.heap.size,Qb w18.heap.size,Qb w18.heap.size,Qb w18.heap.size,Qb w18.heap.size,Qb w18.heap.size,Qb w18.heap.size,Qb w18.heap.size] [(1,i6 p),(Jk sc),(3,pt z),(Hl z),(Lh V),(Lm V),(12,pt w18.heap.size),(14,i6 0)] ⟨w,w18.heap.size+1,[(Ak w),(MB z c),(NL z xf),(Qs V),(Qe V),(Cm V.B V.WS V.QS),(Qk V),(BV V.n2 38 1 (fun x:Int=>[Value.int .u32 x]) (.slice (some ⟨V.gW,0,none⟩) V.nW V.cW) W),(Qr w18 fn19)]⟩ rfl ⟨rfl,rfl,rfl,rfl,rfl,rfl,rfl,rfl,rfl,rfl,rfl,rfl,rfl,rfl,rfl,rfl,rfl,Ae⟩ ?_
 obtain⟨b22,o23,ha24,hF26,hc25⟩:=(hc.Aa).1.all (show 0<c.Aa.xs.length by omega)
 replace ha24:c.Aa.a=some ⟨b22,o23,none⟩:=ha24
 have hc27:=hc25 ((p).toNat) (show(p).toNat<c.Aa.xs.length by omega)
 have he28:=(hc.Aa).2 ((p).toNat) (show(p).toNat<c.Aa.xs.length by omega)
 obtain⟨y29,hy29⟩:∃ y_,y_=gd c.Aa.xs ((p).toNat):=⟨_,rfl⟩
 rw[←hy29]at he28 hc27
 have hyqy29:y29=V.q:=by rw[hy29];exact hVq.symm
 have hyay29:y29.Dx=V.q.Dx:=congrArg Aq.Dx hyqy29;have hyey29:y29.Entry=V.q.Entry:=congrArg Aq.Entry hyqy29
 refine q_c 6 5 [] [[o0,(EM 1 b22 o23 c.Aa),o0,(oi ((p).toNat)),o0,(oa [.via 0 (i6 y29.Entry)]),(ov (.int .u32 y29.Entry)),o0,o0,(an 17 9)],[o0,o0,o0,(an 17 8),(an 17 9)]] [Qb z,Ej b22 o23 c.Aa,(p:Int)=(((p).toNat:Nat):Int),(p).toNat<c.Aa.xs.length,BM,Old w b22 (o23+((p).toNat)*8+1) (i6 y29.Entry),Value.int .u32 (IntKind.u32.wrap (y29.Entry))=Value.int .u32 (y29.Entry),Qb (w18.heap.size+1),Qb (w18.heap.size+1),Qb (w18.heap.size+1),Qb (w18.heap.size+1),Qb (w18.heap.size+1),Qb (w18.heap.size+1),Qb (w18.heap.size+1),Qb (w18.heap.size+1),Qb (w18.heap.size+1),Qb (w18.heap.size+1),Qb (w18.heap.size+1),Qb (w18.heap.size+1),Qb (w18.heap.size+1),Qb (w18.heap.size+1),Qb (w18.heap.size+1),Qb (w18.heap.size+1),Qb (w18.heap.size+1),Qb w18.heap.size,Qb w18.heap.size,Qb w18.heap.size,Qb w18.heap.size,Qb w18.heap.size,Qb w18.heap.size,Qb w18.heap.size,Qb w18.heap.size,Qb w18.heap.size,Qb w18.heap.size,Qb w18.heap.size,Qb w18.heap.size,Qb w18.heap.size,Qb w18.heap.size,Qb w18.heap.size,Qb w18.heap.size,Qb w18.heap.size,Qb (w18.heap.size+1),Qb (w18.heap.size+1),Qb (w18.heap.size+1),Qb (w18.heap.size+1),Qb (w18.heap.size+1),Qb (w18.heap.size+1),Qb (w18.heap.size+1),Qb (w18.heap.size+1),Qb (w18.heap.size+1),Qb (w18.heap.size+1),Qb (w18.heap.size+1),Qb (w18.heap.size+1),Qb (w18.heap.size+1),Qb (w18.heap.size+1),Qb (w18.heap.size+1),Qb (w18.heap.size+1),Qb (w18.heap.size+1)] [(1,i6 p),(Jk sc),(3,pt z),(Hl z),(Lh V),(Lm V),(NJ w18),(62,.bool false),(63,.agg (I5 fn19)),(64,.agg #[.int .u32 0,.int .u32 0,.int .u32 0,.int .u32 0,.int .u32 0,.int .u32 0,.int .u32 0,.int .u32 0,.int .u32 0,.int .u32 0,.int .u32 0,.int .u32 0,.int .u32 0,.int .u32 0,.int .u32 0,.int .u32 0,.int .u32 y29.Entry])] ⟨w,w18.heap.size+2,[(Ak w),(MB z c),(NL z xf),(Qs V),(Qe V),(Cm V.B V.WS V.QS),(Qk V),(BV V.n2 38 1 (fun x:Int=>[Value.int .u32 x]) (.slice (some ⟨V.gW,0,none⟩) V.nW V.cW) W),(Qr w18 fn19),(RJ w18 y29)]⟩ rfl ⟨rfl,Eg ha24,(by omega),(by omega),rfl,Aw (hc27 1 _ rfl),congrArg (Value.int .u32) (Ru rfl (by omega) (by omega)),rfl,rfl,rfl,rfl,rfl,rfl,rfl,rfl,rfl,rfl,rfl,rfl,rfl,rfl,rfl,rfl,rfl,rfl,rfl,rfl,rfl,rfl,rfl,rfl,rfl,rfl,rfl,rfl,rfl,rfl,rfl,rfl,rfl,rfl,rfl,rfl,rfl,rfl,rfl,rfl,rfl,rfl,rfl,rfl,rfl,rfl,rfl,rfl,rfl,rfl,rfl,Ae⟩ ?_
 refine l_eqS false 41 (I5 fn19) (I5 (NV y29.Entry)) (some 65) (Zbb (fun k hk=>by rw[hfnfn19,hyey29];exact hsvw k hk)) (eq_ctx _) ?_
 refine AZ 11 0 [0] [[o0],[o0,o0,o0]] [] [(1,i6 p),(Jk sc),(3,pt z),(Hl z),(Lh V),(Lm V),(NJ w18),(Qa sc),(69,i6 0)] rfl Ae ?_
 refine D8 (fun m a w'=>∃ (n31:Nat) (i:Nat) (Wl:List Int) (s:Int) (r:Int) (t:Int) (pc:Int),m=sc.xs.length - i∧w18.heap.size+2≤n31∧(i≤sc.xs.length)∧(S5 Wl V.st s r t pc 0)∧(Rg V.q s r t pc 0)∧(Ko V Wl)∧St 139 [(1,i6 p),(Jk sc),(3,pt z),(Hl z),(Lh V),(Lm V),(NJ w18),(Qa sc),(69,Ac i)] [] ⟨w,n31,[(Ak w),(MB z c),(NL z xf),(Qs V),(Qe V),(Cm V.B V.WS V.QS),(Qk V),(BV V.n2 38 1 (fun x:Int=>[Value.int .u32 x]) (.slice (some ⟨V.gW,0,none⟩) V.nW V.cW) Wl),(Qr w18 fn19),(RJ w18 y29)]⟩ a w') (sc.xs.length - 0) ?_ ?_
 ·intro a w' hs;exact⟨(w18.heap.size+2),0,W,0,0,0,0,rfl,Nat.le_refl _,Nat.zero_le _,h5,hR,hH,hs⟩
 rintro m a w' ⟨n31,i,Wl,s,r,t,pc,rfl,hn30,hki,h5l,hRl,hHl,hs⟩
 refine(?_:G Tryd.prog 139 [(1,i6 p),(Jk sc),(3,pt z),(Hl z),(Lh V),(Lm V),(NJ w18),(Qa sc),(69,Ac i)] [] ⟨w,n31,[(Ak w),(MB z c),(NL z xf),(Qs V),(Qe V),(Cm V.B V.WS V.QS),(Qk V),(BV V.n2 38 1 (fun x:Int=>[Value.int .u32 x]) (.slice (some ⟨V.gW,0,none⟩) V.nW V.cW) Wl),(Qr w18 fn19),(RJ w18 y29)]⟩ _ _ _) a w' hs
 clear hs a w'
 refine CW ?_
 by_cases h32:(i:Int)<(sc.xs.length:Int)
 ·refine Au 14 0 [1] [[oT],[o0,o0]] [BT ((i:Int)<(sc.xs.length:Int))] [(1,i6 p),(Jk sc),(3,pt z),(Hl z),(Lh V),(Lm V),(NJ w18),(Qa sc),(69,Ac i),(16,Ac i)] rfl ⟨bt,Ae⟩ ?_
  obtain⟨b33,o34,ha35,hF37,hc36⟩:=(hsc).1.all (show 0<sc.xs.length by omega)
  replace ha35:sc.a=some ⟨b33,o34,none⟩:=ha35
  refine Lj [(1,i6 p),(2,.slice (some ⟨b33,o34,none⟩) sc.xs.length sc.cap),(3,pt z),(Hl z),(Lh V),(Lm V),(NJ w18),(Qa sc),(69,Ac i),(16,Ac i)] (by(try dsimp only[RJ,Qs,Qk,Qr,MB,NL,Qe,NJ,Qa,Hl,Jk,Lh,Lm]);simp only[ha35]) ?_
  have hc38:=hc36 i (show i<sc.xs.length by omega)
  have he39:=(hsc).2 i (show i<sc.xs.length by omega)
  obtain⟨y40,hy40⟩:∃ y_,y_=gd sc.xs i:=⟨_,rfl⟩
  rw[←hy40]at he39 hc38
  have hoxy40:=he39.x
  refine Au 1 7 [] [[o0,o0,o0,o0,o0,(oi i),(ol 0 (Ox.arr y40))]] [Dc i,i<sc.xs.length,BM,GN w b33 (o34+i*23) (Ox.arr y40)] [(1,i6 p),(2,.slice (some ⟨b33,o34,none⟩) sc.xs.length sc.cap),(3,pt z),(Hl z),(Lh V),(Lm V),(NJ w18),(Qa sc),(69,Ac i),(73,pt V.dp),(74,pt V.mq),(75,i6 p),(79,.agg (Ox.arr y40))] rfl ⟨rfl,(by omega),rfl,Em hc38,Ae⟩ ?_
  refine l_call [] [] 7 #[pt V.dp,pt V.mq,i6 p,.agg (Ox.arr y40)] (some 80) Ae ?_
  intro w41 hw41
  have hq42:=hw41.pick [3,4,5,6,7] rfl rfl
  have hgo:=played_calls w41 w V Wl (by rw[hw41.size];exact hq42) _ rfl (by have:=hw41.size;simp only[]at this;omega) (by have:=hw41.size;simp only[]at this;omega) hHl s r t pc 0 h5l hRl y40 he39
  rw[hVp]at hgo
  refine hgo.mono ?_
  rintro e w43 ⟨dn44,sn45,rn46,tn47,pn48,Wn49,rfl,hplw43,hSw43,hkw43⟩
  have hnw43:n31≤w43.heap.size:=Ef hw41 hkw43
  have hdw43:=hplw43.hd;have hrw43:=hplw43.hR.hr
  refine⟨_,_,rfl,hw41.turn [0,1,2,8,9] [3,4,5,6,7] rfl rfl rfl (by decide) (IB (V:=V)) hkw43 (fun c hc=>⟨hSw43.all c hc,hSw43.Kq c hc,fun b hb=>⟨hSw43.bnd c hc b hb,Oy c hc b hb⟩⟩) hSw43.Jq, ?_⟩
  refine AZ 12 0 [0] [[o0,o0,o0,o0,o0],[o0,o0],[(ov (i6 ((i+1:Nat):Int))),o0]] [Wr ((i:Int)+1) (((i+1:Nat):Int))] [(1,i6 p),(2,.slice (some ⟨b33,o34,none⟩) sc.xs.length sc.cap),(3,pt z),(Hl z),(Lh V),(Lm V),(NJ w18),(Qa sc),(69,i6 ((i+1:Nat):Int))] rfl ⟨BP,Ae⟩ ?_
  refine Cc [0,1,2,5,6,7,8,9,3,4] [(Ak w),(MB z c),(NL z xf),(Qs V),(Qe V),(Cm V.B V.WS V.QS),(Qk V),(BV V.n2 38 1 (fun x:Int=>[Value.int .u32 x]) (.slice (some ⟨V.gW,0,none⟩) V.nW V.cW) Wn49),(Qr w18 fn19),(RJ w18 y29)] rfl rfl ?_
  refine GH [1,2,3,7,8,9,15,68,69] [(1,i6 p),(Jk sc),(3,pt z),(Hl z),(Lh V),(Lm V),(NJ w18),(Qa sc),(69,i6 ((i+1:Nat):Int))] (by(try dsimp only[RJ,Qs,Qk,Qr,MB,NL,Qe,NJ,Qa,Hl,Jk,Lh,Lm]);simp only[ha35];rfl) ?_
  refine BR (fun a w' hs=>⟨sc.xs.length - (i+1),by omega,w43.heap.size,(i+1),Wn49,sn45,rn46,tn47,pn48,rfl,by omega,by omega,hplw43.h5,hplw43.hR,hplw43.hH,hs⟩)
 refine Au 12 4 [0] [[oF],[o0,o0,o0,(an 17 2)]] [BF ((i:Int)<(sc.xs.length:Int)),Qb (z+1),Qb (z+1),Qb (z+1),Qb (z+1),Qb (z+1),Qb (z+1),Qb (z+1),Qb (z+1),Qb (z+1),Qb (z+1),Qb (z+1),Qb (z+1),Qb (z+1),Qb (z+1),Qb (z+1),Qb (z+1),Qb (z+1)] [(1,i6 p),(3,pt z),(Hl z),(Lh V),(Lm V),(NJ w18),(86,pt V.dp),(87,pt V.mq),(88,i6 p),(89,.agg (I5 xf))] rfl ⟨bf,rfl,rfl,rfl,rfl,rfl,rfl,rfl,rfl,rfl,rfl,rfl,rfl,rfl,rfl,rfl,rfl,rfl,Ae⟩ ?_
 refine l_call [] [] 11 #[pt V.dp,pt V.mq,i6 p,.agg (I5 xf)] (some 90) Ae ?_
 intro w50 hw50
 have hq51:=hw50.pick [3,4,5,6,7] rfl rfl
 have hgo:=Wi w50 w V Wl (by rw[hw50.size];exact hq51) _ rfl (by have:=hw50.size;simp only[]at this;omega) (by have:=hw50.size;simp only[]at this;omega) hHl xf
 rw[hVp]at hgo
 refine hgo.mono ?_
 rintro e w52 ⟨rfl,hSw52,hkw52⟩
 have hnw52:n31≤w52.heap.size:=Ef hw50 hkw52
 have hS2:=pl_save (o:=⟨6,0,0,0,fun _=>0,false,false⟩) hHl h5l hRl hxr rfl
 refine⟨_,_,rfl,hw50.turn [0,1,2,8,9] [3,4,5,6,7] rfl rfl rfl (by decide) (IB (V:=V)) hkw52 (fun c hc=>⟨hSw52.all c hc,hSw52.Kq c hc,fun b hb=>⟨hSw52.bnd c hc b hb,Oy c hc b hb⟩⟩) hSw52.Jq, ?_⟩
 refine AZ 4 3 [] [[o0],[o0,o0,o0]] [] [(1,i6 p),(3,pt z),(Hl z),(Lh V),(Lm V),(NJ w18),(19,i6 0),(92,pt V.dp),(93,pt V.mq),(94,i6 p)] rfl Ae ?_
 refine l_call [] [] 8 #[pt V.dp,pt V.mq,i6 p] (some 95) Ae ?_
 intro w53 hw53
 have hq54:=hw53.pick [5,6,7,8,9] rfl rfl
 have hgo:=X6 w53 w V (Ie Wl V.sv (LH xf)) (by rw[hw53.size];exact hq54) _ rfl (by have:=hw53.size;simp only[]at this;omega) (by have:=hw53.size;simp only[]at this;omega) hS2.hH s r t pc 0 hS2.h5 hS2.hR
 rw[hVp]at hgo
 refine hgo.mono ?_
 rintro e w55 ⟨rfl,hSw55,hkw55⟩
 have hnw55:w52.heap.size≤w55.heap.size:=Ef hw53 hkw55
 refine⟨_,_,rfl,hw53.turn [0,1,2,3,4] [5,6,7,8,9] rfl rfl rfl (by decide) (IB (V:=V)) hkw55 (fun c hc=>⟨hSw55.all c hc,hSw55.Kq c hc,fun b hb=>⟨hSw55.bnd c hc b hb,Oy c hc b hb⟩⟩) hSw55.Jq, ?_⟩
 refine EI 4 3 [] [[o0,o0,o0,o0,(an 5 10),o0],[o0,o0,o0]] [Qb w55.heap.size,Qb w55.heap.size,Qb w55.heap.size,Qb w55.heap.size,Qb w55.heap.size] [(1,i6 p),(3,pt z),(Hl z),(NJ w18),(19,i6 0),(20,pt w55.heap.size),(21,i6 0),(99,pt V.dp),(100,pt V.mq),(101,i6 p)] ⟨w,w55.heap.size+1,[(Ak w),(MB z c),(NL z xf),(Qr w18 fn19),(RJ w18 y29),(Qs V),(Qe V),(Cm V.B V.WS V.QS),(Qk V),(BV V.n2 38 1 (fun x:Int=>[Value.int .u32 x]) (.slice (some ⟨V.gW,0,none⟩) V.nW V.cW) (Ie Wl V.sv (LH xf))),(q57v_1 w55 s r t pc)]⟩ rfl ⟨rfl,rfl,rfl,rfl,rfl,Ae⟩ ?_
 refine l_call [] [] 10 #[pt V.dp,pt V.mq,i6 p] (some 102) Ae ?_
 intro w56 hw56
 have hq57:=hw56.pick [5,6,7,8,9] rfl rfl
 have hgo:=WB w56 w V (Ie Wl V.sv (LH xf)) (by rw[hw56.size];exact hq57) _ rfl (by have:=hw56.size;simp only[]at this;omega) (by have:=hw56.size;simp only[]at this;omega) hS2.hH s r t pc 0 hS2.h5 hS2.hR
 rw[hVp]at hgo
 refine hgo.mono ?_
 rintro e w58 ⟨fn59,dn60,Wn61,rfl,⟨hs2,hfnfn59,rfl,hWnfn59⟩ | ⟨hs2,hfnfn59,rfl,hWnfn59⟩,hSw58,hkw58⟩
 ·have hnw58:w55.heap.size+1≤w58.heap.size:=Ef hw56 hkw58
  refine⟨_,_,rfl,hw56.turn [0,1,2,3,4,10] [5,6,7,8,9] rfl rfl rfl (by decide) (IB (V:=V)) hkw58 (fun c hc=>⟨hSw58.all c hc,hSw58.Kq c hc,fun b hb=>⟨hSw58.bnd c hc b hb,Oy c hc b hb⟩⟩) hSw58.Jq, ?_⟩
  refine EI 18 2 [0,1] [[o0,o0,o0,o0,o0,(an 17 11),o0,o0],[o0,o0,o0,o0,o0,o0,o0,o0,o0,o0],[o0,(a1 5),oT],[(an 17 11),(an 17 4)]] [Qb w58.heap.size,Qb w58.heap.size,Qb w58.heap.size,Qb w58.heap.size,Qb w58.heap.size,Qb w58.heap.size,Qb w58.heap.size,Qb w58.heap.size,Qb w58.heap.size,Qb w58.heap.size,Qb w58.heap.size,Qb w58.heap.size,Qb w58.heap.size,Qb w58.heap.size,Qb w58.heap.size,Qb w58.heap.size,Qb w58.heap.size,Qb w55.heap.size,ET s 2,Qb w58.heap.size,Qb w58.heap.size,Qb w58.heap.size,Qb w58.heap.size,Qb w58.heap.size,Qb w58.heap.size,Qb w58.heap.size,Qb w58.heap.size,Qb w58.heap.size,Qb w58.heap.size,Qb w58.heap.size,Qb w58.heap.size,Qb w58.heap.size,Qb w58.heap.size,Qb w58.heap.size,Qb w58.heap.size,Qb w58.heap.size,Qb (w18.heap.size+1),Qb (w18.heap.size+1),Qb (w18.heap.size+1),Qb (w18.heap.size+1),Qb (w18.heap.size+1),Qb (w18.heap.size+1),Qb (w18.heap.size+1),Qb (w18.heap.size+1),Qb (w18.heap.size+1),Qb (w18.heap.size+1),Qb (w18.heap.size+1),Qb (w18.heap.size+1),Qb (w18.heap.size+1),Qb (w18.heap.size+1),Qb (w18.heap.size+1),Qb (w18.heap.size+1),Qb (w18.heap.size+1)] [(1,i6 p),(3,pt z),(23,i6 V.q.Dx),(119,.agg (I5 fn59)),(120,.agg #[.int .u32 0,.int .u32 0,.int .u32 0,.int .u32 0,.int .u32 0,.int .u32 0,.int .u32 0,.int .u32 0,.int .u32 0,.int .u32 0,.int .u32 0,.int .u32 0,.int .u32 0,.int .u32 0,.int .u32 0,.int .u32 0,.int .u32 y29.Entry])] ⟨w,w58.heap.size+1,[(Ak w),(MB z c),(NL z xf),(Qr w18 fn19),(RJ w18 y29),(q57v_1 w55 s r t pc),(Qs V),(Qe V),(Cm V.B V.WS V.QS),(Qk V),(BV V.n2 38 1 (fun x:Int=>[Value.int .u32 x]) (.slice (some ⟨V.gW,0,none⟩) V.nW V.cW) Wn61),(.blk w58.heap.size (.cells (I5 fn59) 41 (0,0)) true)]⟩ rfl ⟨rfl,rfl,rfl,rfl,rfl,rfl,rfl,rfl,rfl,rfl,rfl,rfl,rfl,rfl,rfl,rfl,rfl,rfl,et,rfl,rfl,rfl,rfl,rfl,rfl,rfl,rfl,rfl,rfl,rfl,rfl,rfl,rfl,rfl,rfl,rfl,rfl,rfl,rfl,rfl,rfl,rfl,rfl,rfl,rfl,rfl,rfl,rfl,rfl,rfl,rfl,rfl,rfl,Ae⟩ ?_
  refine l_eqS true 41 (I5 fn59) (I5 (NV y29.Entry)) (some 121) (by rw[hfnfn59,hyey29]) (eq_ctx _) ?_
  refine AZ 3 0 [] [[o0,o0,o0,(EM 1 b22 o23 c.Aa),o0,(oi ((p).toNat)),o0,(oa [.via 0 (i6 y29.Dx)]),oT,o0,o0]] [Qb z,Ej b22 o23 c.Aa,(p:Int)=(((p).toNat:Nat):Int),(p).toNat<c.Aa.xs.length,BM,Old w b22 (o23+((p).toNat)*8+2) (i6 y29.Dx),ET V.q.Dx y29.Dx] [(6,.bool true)] rfl ⟨rfl,Eg ha24,(by omega),(by omega),rfl,Aw (hc27 2 _ rfl),et,Ae⟩ ?_
  refine Az [] [] (.bool true) Ae ?_
  intro w62 hw62
  exact⟨rfl,AB hw62⟩
 have hnw58:w55.heap.size+1≤w58.heap.size:=Ef hw56 hkw58
 refine⟨_,_,rfl,hw56.turn [0,1,2,3,4,10] [5,6,7,8,9] rfl rfl rfl (by decide) (IB (V:=V)) hkw58 (fun c hc=>⟨hSw58.all c hc,hSw58.Kq c hc,fun b hb=>⟨hSw58.bnd c hc b hb,Oy c hc b hb⟩⟩) hSw58.Jq, ?_⟩
 refine EI 20 2 [0,0] [[o0,o0,o0,o0,o0,(an 17 11),o0,o0],[o0,o0,o0,o0,o0,o0,o0,o0,o0,o0],[o0,(a1 5),oF],[(an 17 11),(an 17 2)]] [Qb w58.heap.size,Qb w58.heap.size,Qb w58.heap.size,Qb w58.heap.size,Qb w58.heap.size,Qb w58.heap.size,Qb w58.heap.size,Qb w58.heap.size,Qb w58.heap.size,Qb w58.heap.size,Qb w58.heap.size,Qb w58.heap.size,Qb w58.heap.size,Qb w58.heap.size,Qb w58.heap.size,Qb w58.heap.size,Qb w58.heap.size,Qb w55.heap.size,EF s 2,Qb w58.heap.size,Qb w58.heap.size,Qb w58.heap.size,Qb w58.heap.size,Qb w58.heap.size,Qb w58.heap.size,Qb w58.heap.size,Qb w58.heap.size,Qb w58.heap.size,Qb w58.heap.size,Qb w58.heap.size,Qb w58.heap.size,Qb w58.heap.size,Qb w58.heap.size,Qb w58.heap.size,Qb w58.heap.size,Qb w58.heap.size,Qb (z+1),Qb (z+1),Qb (z+1),Qb (z+1),Qb (z+1),Qb (z+1),Qb (z+1),Qb (z+1),Qb (z+1),Qb (z+1),Qb (z+1),Qb (z+1),Qb (z+1),Qb (z+1),Qb (z+1),Qb (z+1),Qb (z+1)] [(23,i6 0),(132,.agg (I5 fn59)),(133,.agg (I5 xf))] ⟨w,w58.heap.size+1,[(Ak w),(MB z c),(NL z xf),(Qr w18 fn19),(RJ w18 y29),(q57v_1 w55 s r t pc),(Qs V),(Qe V),(Cm V.B V.WS V.QS),(Qk V),(BV V.n2 38 1 (fun x:Int=>[Value.int .u32 x]) (.slice (some ⟨V.gW,0,none⟩) V.nW V.cW) Wn61),(.blk w58.heap.size (.cells (I5 fn59) 41 (0,0)) true)]⟩ rfl ⟨rfl,rfl,rfl,rfl,rfl,rfl,rfl,rfl,rfl,rfl,rfl,rfl,rfl,rfl,rfl,rfl,rfl,rfl,ef,rfl,rfl,rfl,rfl,rfl,rfl,rfl,rfl,rfl,rfl,rfl,rfl,rfl,rfl,rfl,rfl,rfl,rfl,rfl,rfl,rfl,rfl,rfl,rfl,rfl,rfl,rfl,rfl,rfl,rfl,rfl,rfl,rfl,rfl,Ae⟩ ?_
 refine l_eqS true 41 (I5 fn59) (I5 xf) (some 134) (Zbb (ld_saved hHl hfnfn59 hWnfn59)) (eq_ctx _) ?_
 refine AZ 3 0 [] [[o0,o0,o0,o0,o0]] [] [(6,.bool true)] rfl Ae ?_
 refine Az [] [] (.bool true) Ae ?_
 intro w63 hw63
 exact⟨rfl,AB hw63⟩
end Go.Proofs.YtlccogilgegnfaaDoor.Hx
namespace Go.Proofs.YtlccogilgegnfaaDoor.Row
open Go.ChangeShapes Go.WideShapes Go.ChangeAt Go.RowKit
set_option linter.unusedVariables false
section
variable {H:Type}{enc:TypeId×Value→H}{P:Program}
theorem trodAll_below(hl:laidOutB P=true){W W':World}(hb:Below W.heap.size W W') :
   ∀ {ts:List TypeId} {vs:List Value} {ds:List (DataW H)} {ps:List MemPlace},
     ts.all (fun t=>P.readableRec t&&decide (t<P.types.size))=true→(∀ x∈ps,x.block<W.heap.size) →
     DataW.TrodAll enc P W 0 (fun _=>true) true ts vs ds ps→DataW.TrodAll enc P W' 0 (fun b=>decide (b<W.heap.size)) true ts vs ds ps:=by
 intro ts
 induction ts with
 | nil =>
   intro vs ds ps _ _ h
   obtain⟨rfl,rfl,rfl⟩:=trodAll_nil h
   exact trodAll_mk0
 | cons t ts ih =>
   intro vs ds ps ht hlt h
   obtain⟨v0,vs0,d0,ds0,p0,q0,rfl,rfl,rfl,h0,r0⟩:=trodAll_cons h
   simp only[List.all_cons,Bool.and_eq_true,decide_eq_true_eq]at ht
   refine trodAll_cons_mk (Below.trod hl ht.1.1 ht.1.2 h0 hb (fun x hx=>hlt x (by simp[hx]))) (ih ht.2 (fun x hx=>hlt x (by simp[hx])) r0)
theorem post_true(hl:laidOutB P=true){f:Func}{s:ChangeSpec}{tb:TypeId}{W W':World}{args:Array Value}{ds gs:List (DataW H)}{before:List MemPlace}
   (hts:f.params.toList.all (fun t=>P.readableRec t&&decide (t<P.types.size))=true) (hres:f.resultTypes = #[tb]) (hbool:P.underlying tb=some .bool)
   (hvars:s.vars=[]) (hfn:s.fn H (ds++gs)={ results:=[.lit (.bool true)],args:=ds })
   (hW:DataW.Whole enc P f.params.toList s.vars false W args.toList ds gs before) (bel:Below W.heap.size W W') :
   s.post enc P f false true false false W args (.bool true) W':=by
 have hW':=hW
 obtain⟨p,q,hA,hV,rfl,hfz,hnd⟩:=hW
 rw[hvars]at hV
 obtain⟨rfl,rfl⟩:=trodVars_none hV
 have hlt:∀ x∈p,x.block<W.heap.size:=fun x hx=>hW'.lt x (by simp[hx])
 refine⟨ds,[],_,[],p,[],hW', ?_, ?_, ?_,bel.frame _,fun h=>by cases h⟩
 · rw[hfn,hres];exact trodAll_mk1 (shut_bool hbool _)
 · rw[hfn];exact trodAll_below hl bel hts hlt hA
 · rw[hfn,hvars];rfl
end
end Go.Proofs.YtlccogilgegnfaaDoor.Row
