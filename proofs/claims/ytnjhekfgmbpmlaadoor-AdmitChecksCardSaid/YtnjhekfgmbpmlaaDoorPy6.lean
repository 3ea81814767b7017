/- Packed: Ln, Lo, Lp, Lq, Bc, Bd, Ca, Df, Row. No conditions. -/
import Derived.Test.YtnjhekfgmbpmlaaDoorPy5
import Derived.Test.YtnjhekfgmbpmlaaDoorRows
import Derived.WalkKit
import Derived.ProofKit
import Derived.OpenShut
import Derived.ShutString
import Derived.ChangeOld
import Derived.Below
import Derived.Carry
import Derived.SizedLaws
set_option maxHeartbeats 4000000
namespace Go.Proofs.YtnjhekfgmbpmlaaDoor.Ly
open Go Go.Proofs.YtnjhekfgmbpmlaaDoor.Eng Go.Proofs.YtnjhekfgmbpmlaaDoor.Mem
set_option linter.unusedSimpArgs false
set_option linter.unusedVariables false
set_option maxRecDepth 100000
structure BR where
 At:Int
 Size:Int
 AP:Du
 deriving Inhabited,DecidableEq
def BR.cells(x:BR):List Value:=[.int .i64 x.At]++[.int .i64 x.Size]++Du.cells x.AP
abbrev BR.arr(x:BR):Array Value:= #[.int .i64 x.At,.int .i64 x.Size,.int .i64 x.AP.Kind,.int .i64 x.AP.Index,.int .i64 x.AP.Port]
structure BR.ok(F:Nat→Prop)(W:World)(x:BR):Prop where
 At:Hy .i64 x.At
 Size:Hy .i64 x.Size
 AP:Du.ok F W x.AP
theorem BR.ok.ext{F F':Nat→Prop}{W W':World}(he:Ext F W W')(hF:∀ b,F b→F' b){x:BR}(h:BR.ok F W x):BR.ok F' W' x:=⟨h.At,h.Size,Du.ok.ext he hF h.AP⟩
def Zct(c:Aj)(i:Nat):List BR:=[⟨Dp c i,2,⟨3,(i:Int),0⟩⟩,⟨Dp c i+2,17,⟨4,(i:Int),0⟩⟩,⟨Dp c i+2+17,5,⟨5,(i:Int),0⟩⟩]
def GI(c:Aj)(i:Nat):List BR:=[⟨16*c.Kernel,2,⟨2,0,0⟩⟩]++(List.range i).flatMap (Zct c)
def WC(c:Aj)(k:Nat)(e:GH)(j:Nat):BR:=⟨IR c k j,portOf (gd c.Ag.xs k),⟨8,e.partition,e.port⟩⟩
def Jk(c:Aj)(k:Nat)(l:List GH):List BR:=(List.range l.length).map (fun j=>WC c k (gd l j) j)
def Vz(c:Aj)(k:Nat):List BR:=[⟨Dl c k,2,⟨6,(k:Int),0⟩⟩,⟨Dl c k+2,BV (gd c.Ag.xs k),⟨7,(k:Int),0⟩⟩]++Jk c k (CQ c (k:Int) false)
def IW(c:Aj)(k:Nat):List BR:=(List.range k).flatMap (Vz c)
def Js(c:Aj)(p n:Nat):List BR:=(List.range n).map (fun(u:Nat)=>(⟨16*(Et c p+(u:Int)),16,⟨9,(p:Int),0⟩⟩:BR))
def Ou(c:Aj)(p:Nat):List BR:=(List.range p).flatMap (fun p=>Js c p (1+Jq (gd c.Aa.xs p)))
def Dy(c:Aj):List BR:=GI c c.Aa.xs.length++IW c c.Ag.xs.length++Ou c c.Aa.xs.length
theorem Zo{c:Aj}{i:Nat}:GI c (i+1)=GI c i++[⟨Dp c i,2,⟨3,(i:Int),0⟩⟩]++[⟨Dp c i+2,17,⟨4,(i:Int),0⟩⟩]++[⟨Dp c i+2+17,5,⟨5,(i:Int),0⟩⟩]:=by
 unfold GI;rw[List.range_succ,List.flatMap_append];simp[Zct]
theorem ZaT{c:Aj}:∀ (i:Nat),(GI c i).length=1+3*i
 | 0=>rfl
 | i+1=>by rw[Zo];simp[ZaT i];omega
theorem Vw{c:Aj}{k:Nat}{l:List GH}:(Jk c k l).length=l.length:=by simp[Jk]
theorem Zc1{c:Aj}{k:Nat}{l:List GH}{e:GH}:Jk c k (l++[e])=Jk c k l++[WC c k e l.length]:=by
 unfold Jk
 rw[List.length_append,List.length_singleton,List.range_succ,List.map_append]
 congr 1
 ·refine List.map_congr_left fun j hj => ?_
  rw[MK (List.mem_range.1 hj)]
 simp only[List.map_cons,List.map_nil,Za1]
theorem Zk{c:Aj}{k:Nat}:IW c (k+1)=IW c k++Vz c k:=by unfold IW;rw[List.range_succ,List.flatMap_append];simp
theorem Za8{c:Aj}(hf:Fine c):∀ (k:Nat),k≤c.Ag.xs.length→(IW c k).length≤6*k
 | 0,_=>by simp[IW]
 | k+1,h=>by
  have h1:=Za8 hf k (by omega)
  have h2:=hf.XP (show k<c.Ag.xs.length by omega)
  unfold Kw at h2
  rw[Zk,Vz,List.length_append,List.length_append,Vw]
  simp only[List.length_cons,List.length_nil];omega
theorem Vx{c:Aj}{p n:Nat}:Js c p (n+1)=Js c p n++[⟨16*(Et c p+(n:Int)),16,⟨9,(p:Int),0⟩⟩]:=by unfold Js;rw[List.range_succ,List.map_append];rfl
theorem Zab{c:Aj}{p n:Nat}:(Js c p n).length=n:=by simp[Js]
theorem Zm{c:Aj}{p:Nat}:Ou c (p+1)=Ou c p++Js c p (1+Jq (gd c.Aa.xs p)):=by unfold Ou;rw[List.range_succ,List.flatMap_append];simp
theorem Za2{c:Aj}:∀ (p:Nat),(Ou c p).length≤17*p
 | 0=>by simp[Ou]
 | p+1=>by
  have h1:=Za2 (c:=c) p
  have h2:=UN (gd c.Aa.xs p)
  rw[Zm,List.length_append,Zab];omega
theorem pieces_len{c:Aj}(hf:Fine c):(Dy c).length≤400:=by
 have h1:=ZaT (c:=c) c.Aa.xs.length
 have h2:=Za8 hf c.Ag.xs.length (Nat.le_refl _)
 have h3:=Za2 (c:=c) c.Aa.xs.length
 have hpn:=hf.pn;have hcn:=hf.cn
 unfold Dy
 rw[List.length_append,List.length_append];omega
theorem dAt_bd2{c:Aj}{k j:Nat}(hj:j≤64):Dl c k≤IR c k j∧IR c k j≤Dl c k+9100:=by
 have h1:=Ot (gd c.Ag.xs k)
 have h2:=U0 (gd c.Ag.xs k)
 unfold IR
 have h4:=Int.mul_nonneg (show(0:Int)≤(j:Int)by omega) h2.1
 have h5:=Int.mul_le_mul (show(j:Int)≤64 by omega) h2.2 h2.1 (by omega)
 omega
theorem ZcT{x:Ap}(hr:∀ i,i<x.Af.xs.length→KO (gd x.Af.xs i)=true):(List.range 16).countP (fun b=>IL x b)=Jq x:=by
 unfold Jq
 congr 1
 funext b
 exact touch_tab hr b
theorem rmay_yes(w:World)(c:Aj)(hc:Aj.ok Any w c)(h:EK c=true):Calls Tryd.prog 76 #[.agg (Aj.arr c)] w fun e w'=>e = .returned (.bool true)∧CP (fun _=>False) w w':=by
 have:=Zaa w c hc
 rwa [h]at this
theorem rmay_no(w:World)(c:Aj)(hc:Aj.ok Any w c)(h:EK c=false):Calls Tryd.prog 76 #[.agg (Aj.arr c)] w fun e w'=>e = .returned (.bool false)∧CP (fun _=>False) w w':=by
 have:=Zaa w c hc
 rwa [h]at this
section
variable (n36:Nat)(c:Aj)(k:Nat)(y30:AL)(n10 i:Nat)(n21 z n6:Nat)(aR3:Option Addr)(p:Nat)(y55:Ap)(q cR3:Nat)(aR2:Option Addr)(cR2:Nat)(aR7:Option Addr)(u cR7:Nat)(aR5:Option Addr)(cR5:Nat)(aR1:Option Addr)(cR1:Nat)(ax72:Option Addr)(cp73:Nat)(ax16:Option Addr)(cp17:Nat)(ax38:Option Addr)(cp39 t:Nat)(w:World)
abbrev Ko:=bk n36 #[i6 ((Dl c k)+2),i6 (BV y30),i6 7,Ac k,i6 0] 120
abbrev Z8:=bk n10 #[i6 ((Dp c i)+2),i6 17,i6 4,Ac i,i6 0] 120
abbrev JJ:=bk (n21+1) #[i6 (Dl c k),i6 2,i6 6,Ac k,i6 0] 120
abbrev F7:=bk (z+1) #[i6 (16*c.Kernel),i6 2,i6 2,i6 0,i6 0] 120
abbrev XF:=bk n6 #[i6 (Dp c i),i6 2,i6 3,Ac i,i6 0] 120
abbrev JO:=bk n21 (AL.arr y30) 55
abbrev F8:=bk z (Aj.arr c) 26
abbrev RX:=BJ z 120 5 BR.cells (.slice aR3 ((GI c i++IW c k++[(⟨Dl c k,2,(⟨6,(k:Int),0⟩:Du)⟩:BR)]++[(⟨Dl c k+2,BV y30,(⟨7,(k:Int),0⟩:Du)⟩:BR)]++Jk c k (Dw c (k:Int) false p++CZ p y55 (k:Int) false q)).length) cR3) (GI c i++IW c k++[(⟨Dl c k,2,(⟨6,(k:Int),0⟩:Du)⟩:BR)]++[(⟨Dl c k+2,BV y30,(⟨7,(k:Int),0⟩:Du)⟩:BR)]++Jk c k (Dw c (k:Int) false p++CZ p y55 (k:Int) false q))
abbrev LJ:=BJ z 120 5 BR.cells (.slice aR2 ((GI c i++IW c k++[(⟨Dl c k,2,(⟨6,(k:Int),0⟩:Du)⟩:BR)]++[(⟨Dl c k+2,BV y30,(⟨7,(k:Int),0⟩:Du)⟩:BR)]++Jk c k (Dw c (k:Int) false p)).length) cR2) (GI c i++IW c k++[(⟨Dl c k,2,(⟨6,(k:Int),0⟩:Du)⟩:BR)]++[(⟨Dl c k+2,BV y30,(⟨7,(k:Int),0⟩:Du)⟩:BR)]++Jk c k (Dw c (k:Int) false p))
abbrev VY:=BJ z 120 5 BR.cells (.slice aR7 ((GI c i++IW c k++Ou c p++Js c p u).length) cR7) (GI c i++IW c k++Ou c p++Js c p u)
abbrev OI:=BJ z 120 5 BR.cells (.slice aR5 ((GI c i++IW c k++Ou c p).length) cR5) (GI c i++IW c k++Ou c p)
abbrev J4:=BJ z 120 5 BR.cells (.slice aR1 ((GI c i++IW c k).length) cR1) (GI c i++IW c k)
abbrev XZ:DJ:=(3,.slice ax72 ((GI c i++IW c k++[(⟨Dl c k,2,(⟨6,(k:Int),0⟩:Du)⟩:BR)]++[(⟨Dl c k+2,BV y30,(⟨7,(k:Int),0⟩:Du)⟩:BR)]++Jk c k (Dw c (k:Int) false p++CZ p y55 (k:Int) false q)++[(⟨IR c k (Dw c (k:Int) false p++CZ p y55 (k:Int) false q).length,portOf y30,(⟨8,(p:Int),(q:Int)⟩:Du)⟩:BR)]).length) cp73)
abbrev YL:DJ:=(125,.slice aR3 ((GI c i++IW c k++[(⟨Dl c k,2,(⟨6,(k:Int),0⟩:Du)⟩:BR)]++[(⟨Dl c k+2,BV y30,(⟨7,(k:Int),0⟩:Du)⟩:BR)]++Jk c k (Dw c (k:Int) false p++CZ p y55 (k:Int) false q)).length) cR3)
abbrev Lu:DJ:=(3,.slice aR3 ((GI c i++IW c k++[(⟨Dl c k,2,(⟨6,(k:Int),0⟩:Du)⟩:BR)]++[(⟨Dl c k+2,BV y30,(⟨7,(k:Int),0⟩:Du)⟩:BR)]++Jk c k (Dw c (k:Int) false p++CZ p y55 (k:Int) false q)).length) cR3)
abbrev XV:DJ:=(3,.slice ax16 ((((GI c i++[(⟨Dp c i,2,(⟨3,(i:Int),0⟩:Du)⟩:BR)])++[(⟨(Dp c i)+2,17,(⟨4,(i:Int),0⟩:Du)⟩:BR)])++[(⟨((Dp c i)+2)+17,5,(⟨5,(i:Int),0⟩:Du)⟩:BR)]).length) cp17)
abbrev J5:DJ:=(3,.slice aR2 ((GI c i++IW c k++[(⟨Dl c k,2,(⟨6,(k:Int),0⟩:Du)⟩:BR)]++[(⟨Dl c k+2,BV y30,(⟨7,(k:Int),0⟩:Du)⟩:BR)]++Jk c k (Dw c (k:Int) false p)).length) cR2)
abbrev ZaR:DJ:=(3,.slice ax38 (((GI c i++IW c k++[(⟨Dl c k,2,(⟨6,(k:Int),0⟩:Du)⟩:BR)])++[(⟨(Dl c k)+2,BV y30,(⟨7,(k:Int),0⟩:Du)⟩:BR)]).length) cp39)
abbrev VA:=(12,i6 (((1+(List.range t).countP (fun b=>IL (gd c.Aa.xs p) b))+1:Nat):Int))
abbrev Qo:=(166,i6 ((1+(List.range t).countP (fun b=>IL (gd c.Aa.xs p) b):Nat):Int))
abbrev Nh:=(12,i6 ((1+(List.range t).countP (fun b=>IL (gd c.Aa.xs p) b):Nat):Int))
abbrev Kz:=(4,i6 (IR c k (Dw c (k:Int) false p++CZ p y55 (k:Int) false q).length))
abbrev J7:=(4,i6 (IR c k (Dw c (k:Int) false p).length))
abbrev J3:DJ:=(3,.slice aR5 ((GI c i++IW c k++Ou c p).length) cR5)
abbrev Hw:=(149,Ac c.Aa.xs.length)
abbrev Io:=(27,Ac c.Aa.xs.length)
abbrev Gt:=(93,Ac c.Aa.xs.length)
abbrev EU:=(60,Ac c.Ag.xs.length)
abbrev Jz:=(103,Ac y55.Am.xs.length)
abbrev IB:DJ:=(3,.slice aR1 ((GI c i++IW c k).length) cR1)
abbrev QG:=(4,i6 (16*(Et c p+(u:Int))))
abbrev PI:=(104,i6 ((q+1:Nat):Int))
abbrev FI:=(7,pt n21)
abbrev PL:=[(Ak w),(F8 c z),(F7 c z),(RX c k y30 i z aR3 p y55 q cR3),(JO y30 n21),(JJ c k n21),(Ko n36 c k y30)]
end
theorem Zb2(w:World)(c:Aj)(hc:Aj.ok Any w c)(hok:EK c=true):Calls Tryd.prog 78 #[.agg (Aj.arr c)] w fun e w'=>∃ a cp,e = .returned (.slice a (Dy c).length cp)∧KU BR.cells 5 (New w.heap.size) w' ⟨a,cp,Dy c⟩∧CP (fun _=>False) w w':=by
 obtain⟨z,hz⟩:∃ z,z=w.heap.size:=⟨_,rfl⟩
 refine CE (args:=[.agg (Aj.arr c)]) 181 ⟨w,z,[(Ak w)]⟩ Tryd.func78 rfl (by kernel_rfl) (by kernel_rfl) (Ep hz) ?_
 have hfine:=Wp hok;have hkn:=hfine.kn;have hpn:=hfine.pn;have hcn:=hfine.cn;have h8:∀ i,i<c.Aa.xs.length→(gd c.Aa.xs i).Am.xs.length≤8:=fun i hi=>OW (hfine.parts i hi)
 refine DC [0] [(0,.agg (Aj.arr c))] ?_
 refine q_c 14 5 [] [[o0,o0],[o0],[o0,(a1 1),(ov (i6 (16*c.Kernel))),o0],[o0,o0,o0,o0,o0]] [Qb z,Wr ((16:Int)*c.Kernel) (16*c.Kernel)] [(1,pt z),(4,i6 (16*c.Kernel)),(17,.slice none 0 0),(21,.slice (some ⟨z+1,0,none⟩) 1 1)] ⟨w,z+2,[(Ak w),(F8 c z),(F7 c z)]⟩ rfl ⟨rfl,BQ,Ae⟩ ?_
 refine Xr z 120 5 BR.cells ?_
 refine PW z 3 2 ([]) [(⟨16*c.Kernel,2,(⟨2,0,0⟩:Du)⟩:BR)] BR.cells 120 5 40 (.slice none 0 0) (z+1) 1 1 #[i6 (16*c.Kernel),i6 2,i6 2,i6 0,i6 0] 120 (0,0) true (some 22) (by simp only[List.length_cons,List.length_nil,List.length_append];omega) (show z≤z+2 by omega) (fun ax1 cp2 n3 (hn4:z+2≤n3) => ?_)
 refine BP 12 0 [] [[o0],[o0,(ov (i6 ((16*c.Kernel)+2))),o0],[o0,(a1 1),o0,o0]] [Wr ((16*c.Kernel:Int)+2) ((16*c.Kernel)+2),Qb z] [(1,pt z),(3,.slice ax1 (([]++[(⟨16*c.Kernel,2,(⟨2,0,0⟩:Du)⟩:BR)]).length) cp2),(4,i6 ((16*c.Kernel)+2)),(Io c),(28,i6 0)] rfl ⟨BQ,rfl,Ae⟩ ?_
 refine Di (fun m a w'=>∃ (n6:Nat) (i:Nat) (aR0:Option Addr) (cR0:Nat),m=c.Aa.xs.length - i∧n3≤n6∧(i≤c.Aa.xs.length)∧St 181 [(1,pt z),(3,.slice aR0 ((GI c i).length) cR0),(4,i6 (Dp c i)),(Io c),(28,Ac i)] [] ⟨w,n6,[(Ak w),(F8 c z),(F7 c z),(BJ z 120 5 BR.cells (.slice aR0 ((GI c i).length) cR0) (GI c i))]⟩ a w') (c.Aa.xs.length - 0) ?_ ?_
 ·intro a w' hs;exact⟨n3,0,ax1,cp2,rfl,Nat.le_refl _,Nat.zero_le _,by(try dsimp only[F7,F8,Io]at hs ⊢);rw[show Dp c 0=(16*c.Kernel)+2 from by unfold Dp;omega];exact hs⟩
 rintro m a w' ⟨n6,i,aR0,cR0,rfl,hn5,hki,hs⟩
 refine(?_:G Tryd.prog 181 [(1,pt z),(3,.slice aR0 ((GI c i).length) cR0),(4,i6 (Dp c i)),(Io c),(28,Ac i)] [] ⟨w,n6,[(Ak w),(F8 c z),(F7 c z),(BJ z 120 5 BR.cells (.slice aR0 ((GI c i).length) cR0) (GI c i))]⟩ _ _ _) a w' hs
 clear hs a w'
 have hpA:Dp c i=c.Kernel*16+2+24*(i:Int):=rfl
 have hlp:=ZaT (c:=c) i
 refine Ce ?_
 by_cases h7:(i:Int)<(c.Aa.xs.length:Int)
 ·refine q_c 15 6 [1] [[oT],[o0,o0],[o0,o0,o0,o0,o0,o0]] [BT ((i:Int)<(c.Aa.xs.length:Int))] [(1,pt z),(4,i6 (Dp c i)),(Io c),(28,Ac i),(5,Ac i),(31,.slice aR0 ((GI c i).length) cR0),(36,.slice (some ⟨n6,0,none⟩) 1 1)] ⟨w,n6+1,[(Ak w),(F8 c z),(F7 c z),(BJ z 120 5 BR.cells (.slice aR0 ((GI c i).length) cR0) (GI c i)),(XF c i n6)]⟩ rfl ⟨bt,Ae⟩ ?_
  refine PW z 3 4 (GI c i) [(⟨Dp c i,2,(⟨3,(i:Int),0⟩:Du)⟩:BR)] BR.cells 120 5 40 (.slice aR0 ((GI c i).length) cR0) n6 1 1 #[i6 (Dp c i),i6 2,i6 3,Ac i,i6 0] 120 (0,0) true (some 37) (by simp only[List.length_cons,List.length_nil,List.length_append];omega) (show z≤n6+1 by omega) (fun ax8 cp9 n10 (hn11:n6+1≤n10) => ?_)
  refine EY 4 7 [] [[o0],[o0,o0,(ov (i6 ((Dp c i)+2))),o0,o0,o0,o0]] [Wr ((Dp c i:Int)+2) ((Dp c i)+2)] [(1,pt z),(4,i6 (Dp c i)),(Io c),(28,Ac i),(5,Ac i),(38,.slice ax8 ((GI c i++[(⟨Dp c i,2,(⟨3,(i:Int),0⟩:Du)⟩:BR)]).length) cp9),(44,.slice (some ⟨n10,0,none⟩) 1 1)] ⟨w,n10+1,[(Ak w),(F8 c z),(F7 c z),(BJ z 120 5 BR.cells (.slice ax8 ((GI c i++[(⟨Dp c i,2,(⟨3,(i:Int),0⟩:Du)⟩:BR)]).length) cp9) (GI c i++[(⟨Dp c i,2,(⟨3,(i:Int),0⟩:Du)⟩:BR)])),(XF c i n6),(Z8 c n10 i)]⟩ rfl ⟨BQ,Ae⟩ ?_
  refine PW z 3 5 (GI c i++[(⟨Dp c i,2,(⟨3,(i:Int),0⟩:Du)⟩:BR)]) [(⟨(Dp c i)+2,17,(⟨4,(i:Int),0⟩:Du)⟩:BR)] BR.cells 120 5 40 (.slice ax8 ((GI c i++[(⟨Dp c i,2,(⟨3,(i:Int),0⟩:Du)⟩:BR)]).length) cp9) n10 1 1 #[i6 ((Dp c i)+2),i6 17,i6 4,Ac i,i6 0] 120 (0,0) true (some 45) (by simp only[List.length_cons,List.length_nil,List.length_append];omega) (show z≤n10+1 by omega) (fun ax12 cp13 n14 (hn15:n10+1≤n14) => ?_)
  refine EY 4 8 [] [[o0],[o0,o0,(ov (i6 ((Dp c i)+2))),(ov (i6 (((Dp c i)+2)+17))),o0,o0,o0,o0]] [Wr ((Dp c i:Int)+2) ((Dp c i)+2),Wr (((Dp c i)+2:Int)+17) (((Dp c i)+2)+17)] [(1,pt z),(4,i6 (Dp c i)),(Io c),(28,Ac i),(46,.slice ax12 (((GI c i++[(⟨Dp c i,2,(⟨3,(i:Int),0⟩:Du)⟩:BR)])++[(⟨(Dp c i)+2,17,(⟨4,(i:Int),0⟩:Du)⟩:BR)]).length) cp13),(53,.slice (some ⟨n14,0,none⟩) 1 1)] ⟨w,n14+1,[(Ak w),(F8 c z),(F7 c z),(BJ z 120 5 BR.cells (.slice ax12 (((GI c i++[(⟨Dp c i,2,(⟨3,(i:Int),0⟩:Du)⟩:BR)])++[(⟨(Dp c i)+2,17,(⟨4,(i:Int),0⟩:Du)⟩:BR)]).length) cp13) ((GI c i++[(⟨Dp c i,2,(⟨3,(i:Int),0⟩:Du)⟩:BR)])++[(⟨(Dp c i)+2,17,(⟨4,(i:Int),0⟩:Du)⟩:BR)])),(XF c i n6),(Z8 c n10 i),(bk n14 #[i6 (((Dp c i)+2)+17),i6 5,i6 5,Ac i,i6 0] 120)]⟩ rfl ⟨BQ,BQ,Ae⟩ ?_
  refine PW z 3 6 ((GI c i++[(⟨Dp c i,2,(⟨3,(i:Int),0⟩:Du)⟩:BR)])++[(⟨(Dp c i)+2,17,(⟨4,(i:Int),0⟩:Du)⟩:BR)]) [(⟨((Dp c i)+2)+17,5,(⟨5,(i:Int),0⟩:Du)⟩:BR)] BR.cells 120 5 40 (.slice ax12 (((GI c i++[(⟨Dp c i,2,(⟨3,(i:Int),0⟩:Du)⟩:BR)])++[(⟨(Dp c i)+2,17,(⟨4,(i:Int),0⟩:Du)⟩:BR)]).length) cp13) n14 1 1 #[i6 (((Dp c i)+2)+17),i6 5,i6 5,Ac i,i6 0] 120 (0,0) true (some 54) (by simp only[List.length_cons,List.length_nil,List.length_append];omega) (show z≤n14+1 by omega) (fun ax16 cp17 n18 (hn19:n14+1≤n18) => ?_)
  refine BP 8 0 [] [[o0],[o0,(ov (i6 ((Dp c i)+24))),o0],[(ov (i6 ((i+1:Nat):Int))),o0]] [Wr ((Dp c i:Int)+24) ((Dp c i)+24),Wr ((i:Int)+1) (((i+1:Nat):Int))] [(1,pt z),(4,i6 ((Dp c i)+24)),(Io c),(28,i6 ((i+1:Nat):Int)),(XV c i ax16 cp17)] rfl ⟨BQ,BQ,Ae⟩ ?_
  refine Cb [0,1,2,3] [(Ak w),(F8 c z),(F7 c z),(BJ z 120 5 BR.cells (.slice ax16 ((((GI c i++[(⟨Dp c i,2,(⟨3,(i:Int),0⟩:Du)⟩:BR)])++[(⟨(Dp c i)+2,17,(⟨4,(i:Int),0⟩:Du)⟩:BR)])++[(⟨((Dp c i)+2)+17,5,(⟨5,(i:Int),0⟩:Du)⟩:BR)]).length) cp17) (((GI c i++[(⟨Dp c i,2,(⟨3,(i:Int),0⟩:Du)⟩:BR)])++[(⟨(Dp c i)+2,17,(⟨4,(i:Int),0⟩:Du)⟩:BR)])++[(⟨((Dp c i)+2)+17,5,(⟨5,(i:Int),0⟩:Du)⟩:BR)]))] rfl rfl ?_
  refine BK [1,3,4,27,28] [(1,pt z),(XV c i ax16 cp17),(4,i6 ((Dp c i)+24)),(Io c),(28,i6 ((i+1:Nat):Int))] ?_
  refine BD (fun a w' hs=>⟨c.Aa.xs.length - (i+1),by omega,n18,(i+1),ax16,cp17,rfl,by omega,by omega,by(try dsimp only[Z8,F7,XF,F8,XV,Io]at hs ⊢);rw[show Dp c (i+1)=(Dp c i)+24 from by unfold Dp;omega,Zo];exact hs⟩)
 refine Az 16 0 [0] [[oF],[o0,(a1 1),o0,o0]] [BF ((i:Int)<(c.Aa.xs.length:Int)),Qb z] [(1,pt z),(3,.slice aR0 ((GI c i).length) cR0),(4,i6 (Dp c i)),(EU c),(61,i6 0)] rfl ⟨bf,rfl,Ae⟩ ?_
 refine Di (fun m a w'=>∃ (n21:Nat) (k:Nat) (aR1:Option Addr) (cR1:Nat),m=c.Ag.xs.length - k∧n6≤n21∧(k≤c.Ag.xs.length)∧St 181 [(1,pt z),(IB c k i aR1 cR1),(4,i6 (Dl c k)),(EU c),(61,Ac k)] [] ⟨w,n21,[(Ak w),(F8 c z),(F7 c z),(J4 c k i z aR1 cR1)]⟩ a w') (c.Ag.xs.length - 0) ?_ ?_
 ·intro a w' hs;exact⟨n6,0,aR0,cR0,rfl,Nat.le_refl _,Nat.zero_le _,by(try dsimp only[Z8,F7,XF,F8,J4,XV,Io,EU,IB]at hs ⊢);rw[show IW c 0=[]from rfl,List.append_nil,show Dl c 0=Dp c i from by rw[show i=c.Aa.xs.length by omega];rfl];exact hs⟩
 rintro m a w' ⟨n21,k,aR1,cR1,rfl,hn20,hkk,hs⟩
 refine(?_:G Tryd.prog 181 [(1,pt z),(IB c k i aR1 cR1),(4,i6 (Dl c k)),(EU c),(61,Ac k)] [] ⟨w,n21,[(Ak w),(F8 c z),(F7 c z),(J4 c k i z aR1 cR1)]⟩ _ _ _) a w' hs
 clear hs a w'
 have hcb:=UT hfine k (by omega)
 have hp0:Dp c c.Aa.xs.length=c.Kernel*16+2+24*(c.Aa.xs.length:Int):=rfl
 have hlc:=Za8 hfine k (by omega)
 refine Ce ?_
 by_cases h22:(k:Int)<(c.Ag.xs.length:Int)
 ·refine Az 14 0 [1] [[oT],[o0,o0]] [BT ((k:Int)<(c.Ag.xs.length:Int))] [(1,pt z),(IB c k i aR1 cR1),(4,i6 (Dl c k)),(EU c),(61,Ac k),(6,Ac k)] rfl ⟨bt,Ae⟩ ?_
  obtain⟨b23,o24,ha25,hF27,hc26⟩:=(hc.Ag).1.all (show 0<c.Ag.xs.length by omega)
  replace ha25:c.Ag.a=some ⟨b23,o24,none⟩:=ha25
  have hc28:=hc26 k (show k<c.Ag.xs.length by omega)
  have he29:=(hc.Ag).2 k (show k<c.Ag.xs.length by omega)
  obtain⟨y30,hy30⟩:∃ y_,y_=gd c.Ag.xs k:=⟨_,rfl⟩
  rw[←hy30]at he29 hc28
  have hsb:=Ot y30;have hpb:=U0 y30;have hlb:=ZaQ hfine (show k<c.Ag.xs.length by omega)
  refine q_c 5 6 [] [[o0,(DN 1 b23 o24 c.Ag),o0,(oi k),(ol 0 (AL.arr y30)),o0,(an 3 4)],[o0,o0,o0,o0,o0,o0]] [Qb z,Dh b23 o24 c.Ag,Ci k,k<c.Ag.xs.length,BN,Fa w b23 (o24+k*3) (AL.arr y30),Qb n21,Qb n21,Qb n21] [(1,pt z),(4,i6 (Dl c k)),(EU c),(61,Ac k),(6,Ac k),(FI n21),(69,.slice aR1 ((GI c i++IW c k).length) cR1),(74,.slice (some ⟨n21+1,0,none⟩) 1 1)] ⟨w,n21+2,[(Ak w),(F8 c z),(F7 c z),(J4 c k i z aR1 cR1),(JO y30 n21),(JJ c k n21)]⟩ rfl ⟨rfl,Df ha25,rfl,(by omega),rfl,Dt hc28,rfl,rfl,rfl,Ae⟩ ?_
  refine PW z 3 5 (GI c i++IW c k) [(⟨Dl c k,2,(⟨6,(k:Int),0⟩:Du)⟩:BR)] BR.cells 120 5 40 (.slice aR1 ((GI c i++IW c k).length) cR1) (n21+1) 1 1 #[i6 (Dl c k),i6 2,i6 6,Ac k,i6 0] 120 (0,0) true (some 75) (by simp only[List.length_cons,List.length_nil,List.length_append];omega) (show z≤n21+2 by omega) (fun ax31 cp32 n33 (hn34:n21+2≤n33) => ?_)
  refine BP 4 4 [] [[o0],[o0,o0,(ov (i6 ((Dl c k)+2))),(an 3 4)]] [Wr ((Dl c k:Int)+2) ((Dl c k)+2),Qb n21,Qb n21,Qb n21] [(1,pt z),(4,i6 (Dl c k)),(EU c),(61,Ac k),(6,Ac k),(FI n21),(76,.slice ax31 ((GI c i++IW c k++[(⟨Dl c k,2,(⟨6,(k:Int),0⟩:Du)⟩:BR)]).length) cp32),(78,i6 ((Dl c k)+2)),(79,.agg (AL.arr y30))] rfl ⟨BQ,rfl,rfl,rfl,Ae⟩ ?_
  refine Bf 83 #[.agg (AL.arr y30)] (some 80) (i6 (BV y30)) (fun w35 hw35=>Xi w35 y30 (he29.ext (hw35.ext rfl) (fun _ h=>h))) (fun n36 (hn37:n33≤n36) => ?_)
  refine EY 0 4 [] [[o0,o0,o0,o0]] [] [(1,pt z),(4,i6 (Dl c k)),(EU c),(61,Ac k),(6,Ac k),(FI n21),(76,.slice ax31 ((GI c i++IW c k++[(⟨Dl c k,2,(⟨6,(k:Int),0⟩:Du)⟩:BR)]).length) cp32),(84,.slice (some ⟨n36,0,none⟩) 1 1)] ⟨w,n36+1,[(Ak w),(F8 c z),(F7 c z),(BJ z 120 5 BR.cells (.slice ax31 ((GI c i++IW c k++[(⟨Dl c k,2,(⟨6,(k:Int),0⟩:Du)⟩:BR)]).length) cp32) (GI c i++IW c k++[(⟨Dl c k,2,(⟨6,(k:Int),0⟩:Du)⟩:BR)])),(JO y30 n21),(JJ c k n21),(Ko n36 c k y30)]⟩ rfl Ae ?_
  refine PW z 3 6 (GI c i++IW c k++[(⟨Dl c k,2,(⟨6,(k:Int),0⟩:Du)⟩:BR)]) [(⟨(Dl c k)+2,BV y30,(⟨7,(k:Int),0⟩:Du)⟩:BR)] BR.cells 120 5 40 (.slice ax31 ((GI c i++IW c k++[(⟨Dl c k,2,(⟨6,(k:Int),0⟩:Du)⟩:BR)]).length) cp32) n36 1 1 #[i6 ((Dl c k)+2),i6 (BV y30),i6 7,Ac k,i6 0] 120 (0,0) true (some 85) (by simp only[List.length_cons,List.length_nil,List.length_append];omega) (show z≤n36+1 by omega) (fun ax38 cp39 n40 (hn41:n36+1≤n40) => ?_)
  refine BP 4 2 [] [[o0],[o0,(an 3 4)]] [Qb n21,Qb n21,Qb n21] [(1,pt z),(EU c),(61,Ac k),(6,Ac k),(FI n21),(ZaR c k y30 i ax38 cp39),(86,i6 (Dl c k)),(87,.agg (AL.arr y30))] rfl ⟨rfl,rfl,rfl,Ae⟩ ?_
  refine Bf 83 #[.agg (AL.arr y30)] (some 88) (i6 (BV y30)) (fun w42 hw42=>Xi w42 y30 (he29.ext (hw42.ext rfl) (fun _ h=>h))) (fun n43 (hn44:n40≤n43) => ?_)
  refine BP 7 0 [] [[(ov (i6 (2+(BV y30)))),(ov (i6 ((Dl c k)+(2+(BV y30))))),o0],[o0,(a1 1),o0,o0]] [Wr ((2:Int)+(BV y30)) (2+(BV y30)),Wr ((Dl c k:Int)+(2+(BV y30))) ((Dl c k)+(2+(BV y30))),Qb z] [(1,pt z),(ZaR c k y30 i ax38 cp39),(4,i6 ((Dl c k)+(2+(BV y30)))),(6,Ac k),(FI n21),(EU c),(61,Ac k),(Gt c),(94,i6 0)] rfl ⟨BQ,BQ,rfl,Ae⟩ ?_
  refine Di (fun m a w'=>∃ (n46:Nat) (p:Nat) (aR2:Option Addr) (cR2:Nat),m=c.Aa.xs.length - p∧n43≤n46∧(p≤c.Aa.xs.length)∧St 181 [(1,pt z),(J5 c k y30 i p aR2 cR2),(J7 c k p),(6,Ac k),(FI n21),(EU c),(61,Ac k),(Gt c),(94,Ac p)] [] ⟨w,n46,[(Ak w),(F8 c z),(F7 c z),(LJ c k y30 i z p aR2 cR2),(JO y30 n21),(JJ c k n21),(Ko n36 c k y30)]⟩ a w') (c.Aa.xs.length - 0) ?_ ?_
  ·intro a w' hs;exact⟨n43,0,ax38,cp39,rfl,Nat.le_refl _,Nat.zero_le _,by(try dsimp only[Ko,JJ,F7,JO,F8,LJ,J4,J5,ZaR,J7,Io,Gt,EU,IB,FI]at hs ⊢);rw[show Dw c (k:Int) false 0=[]from rfl,show IR c k (List.length [])=(Dl c k)+(2+(BV y30))from by unfold IR;rw[←hy30,List.length_nil];omega,show Jk c k []=[]from rfl,List.append_nil];exact hs⟩
  rintro m a w' ⟨n46,p,aR2,cR2,rfl,hn45,hkp,hs⟩
  refine(?_:G Tryd.prog 181 [(1,pt z),(J5 c k y30 i p aR2 cR2),(J7 c k p),(6,Ac k),(FI n21),(EU c),(61,Ac k),(Gt c),(94,Ac p)] [] ⟨w,n46,[(Ak w),(F8 c z),(F7 c z),(LJ c k y30 i z p aR2 cR2),(JO y30 n21),(JJ c k n21),(Ko n36 c k y30)]⟩ _ _ _) a w' hs
  clear hs a w'
  have hle:=TY (k:=(k:Int)) (b:=false) h8 p (by omega)
  have hdb:=dAt_bd2 (c:=c) (k:=k) (show(Dw c (k:Int) false p).length≤64 by omega)
  have hld:=Vw (c:=c) (k:=k) (l:=Dw c (k:Int) false p)
  refine Ce ?_
  by_cases h47:(p:Int)<(c.Aa.xs.length:Int)
  ·refine Az 14 0 [1] [[oT],[o0,o0]] [BT ((p:Int)<(c.Aa.xs.length:Int))] [(1,pt z),(J5 c k y30 i p aR2 cR2),(J7 c k p),(6,Ac k),(FI n21),(EU c),(61,Ac k),(Gt c),(94,Ac p),(8,Ac p)] rfl ⟨bt,Ae⟩ ?_
   obtain⟨b48,o49,ha50,hF52,hc51⟩:=(hc.Aa).1.all (show 0<c.Aa.xs.length by omega)
   replace ha50:c.Aa.a=some ⟨b48,o49,none⟩:=ha50
   have hc53:=hc51 p (show p<c.Aa.xs.length by omega)
   have he54:=(hc.Aa).2 p (show p<c.Aa.xs.length by omega)
   obtain⟨y55,hy55⟩:∃ y_,y_=gd c.Aa.xs p:=⟨_,rfl⟩
   rw[←hy55]at he54 hc53
   have h8p:=h8 p (by omega);rw[←hy55]at h8p
   refine Az 4 0 [] [[o0,(DN 1 b48 o49 c.Aa),o0,(oi p),o0,(oa [.via 0 (.slice y55.Am.a y55.Am.xs.length y55.Am.cap)]),o0,o0]] [Qb z,Dh b48 o49 c.Aa,Ci p,p<c.Aa.xs.length,BN,Old w b48 (o49+p*8+7) (.slice y55.Am.a y55.Am.xs.length y55.Am.cap)] [(1,pt z),(J5 c k y30 i p aR2 cR2),(J7 c k p),(6,Ac k),(FI n21),(8,Ac p),(EU c),(61,Ac k),(Gt c),(94,Ac p),(Jz y55),(104,i6 0)] rfl ⟨rfl,Df ha50,rfl,(by omega),rfl,A7 (hc53 7 _ rfl),Ae⟩ ?_
   refine Di (fun m a w'=>∃ (n57:Nat) (q:Nat) (aR3:Option Addr) (cR3:Nat),m=y55.Am.xs.length - q∧n46≤n57∧(q≤y55.Am.xs.length)∧St 181 [(1,pt z),(Lu c k y30 i aR3 p y55 q cR3),(Kz c k p y55 q),(6,Ac k),(FI n21),(8,Ac p),(EU c),(61,Ac k),(Gt c),(94,Ac p),(Jz y55),(104,Ac q)] [] ⟨w,n57,(PL n36 c k y30 i n21 z aR3 p y55 q cR3 w)⟩ a w') (y55.Am.xs.length - 0) ?_ ?_
   ·intro a w' hs;exact⟨n46,0,aR2,cR2,rfl,Nat.le_refl _,Nat.zero_le _,by(try dsimp only[Ko,JJ,F7,JO,F8,RX,LJ,J4,Lu,J5,Kz,J7,Io,Gt,EU,Jz,IB,FI,PL]at hs ⊢);rw[show CZ p y55 (k:Int) false 0=[]from rfl,List.append_nil];exact hs⟩
   rintro m a w' ⟨n57,q,aR3,cR3,rfl,hn56,hkq,hs⟩
   refine(?_:G Tryd.prog 181 [(1,pt z),(Lu c k y30 i aR3 p y55 q cR3),(Kz c k p y55 q),(6,Ac k),(FI n21),(8,Ac p),(EU c),(61,Ac k),(Gt c),(94,Ac p),(Jz y55),(104,Ac q)] [] ⟨w,n57,(PL n36 c k y30 i n21 z aR3 p y55 q cR3 w)⟩ _ _ _) a w' hs
   clear hs a w'
   have hlq:(CZ p y55 (k:Int) false q).length≤q:=Su
   have hl2:(Dw c (k:Int) false p++CZ p y55 (k:Int) false q).length=(Dw c (k:Int) false p).length+(CZ p y55 (k:Int) false q).length:=List.length_append
   have hdb2:=dAt_bd2 (c:=c) (k:=k) (show(Dw c (k:Int) false p++CZ p y55 (k:Int) false q).length≤64 by omega)
   have hld2:=Vw (c:=c) (k:=k) (l:=(Dw c (k:Int) false p++CZ p y55 (k:Int) false q))
   refine Ce ?_
   by_cases h58:(q:Int)<(y55.Am.xs.length:Int)
   ·refine Az 14 0 [1] [[oT],[o0,o0]] [BT ((q:Int)<(y55.Am.xs.length:Int))] [(1,pt z),(Lu c k y30 i aR3 p y55 q cR3),(Kz c k p y55 q),(6,Ac k),(FI n21),(8,Ac p),(EU c),(61,Ac k),(Gt c),(94,Ac p),(Jz y55),(104,Ac q),(9,Ac q)] rfl ⟨bt,Ae⟩ ?_
    obtain⟨b59,o60,ha61,hF63,hc62⟩:=(he54.Am).1.all (show 0<y55.Am.xs.length by omega)
    replace ha61:y55.Am.a=some ⟨b59,o60,none⟩:=ha61
    have hc64:=hc62 q (show q<y55.Am.xs.length by omega)
    have he65:=(he54.Am).2 q (show q<y55.Am.xs.length by omega)
    obtain⟨y66,hy66⟩:∃ y_,y_=gd y55.Am.xs q:=⟨_,rfl⟩
    rw[←hy66]at he65 hc64
    refine q_c 4 0 [] [[o0,(DN 1 b48 o49 c.Aa),o0,(oi p),o0,⟨.auto [.via 0 (.slice y55.Am.a y55.Am.xs.length y55.Am.cap)],some (.slice (some ⟨b59,o60,none⟩) y55.Am.xs.length y55.Am.cap)⟩,o0,(oi q),(ol 0 (Bh.arr y66)),o0,(an 2 7)]] [Qb z,Dh b48 o49 c.Aa,Ci p,p<c.Aa.xs.length,BN,Old w b48 (o49+p*8+7) (.slice y55.Am.a y55.Am.xs.length y55.Am.cap),Dh b59 o60 y55.Am,Ci q,q<y55.Am.xs.length,BN,Fa w b59 (o60+q*2) (Bh.arr y66),Qb n57,Qb n57] [(1,pt z),(Lu c k y30 i aR3 p y55 q cR3),(Kz c k p y55 q),(6,Ac k),(FI n21),(8,Ac p),(EU c),(61,Ac k),(Gt c),(94,Ac p),(Jz y55),(104,Ac q),(9,Ac q),(10,pt n57)] ⟨w,n57+1,[(Ak w),(F8 c z),(F7 c z),(RX c k y30 i z aR3 p y55 q cR3),(JO y30 n21),(JJ c k n21),(Ko n36 c k y30),(bk n57 (Bh.arr y66) 57)]⟩ rfl ⟨rfl,Df ha50,rfl,(by omega),rfl,A7 (hc53 7 _ rfl),Df ha61,rfl,(by omega),rfl,Dt hc64,rfl,rfl,Ae⟩ ?_
    by_cases h67:(y66.Channel:Int)=(k:Int)
    ·by_cases h68:y66.Source=true
     ·refine Az 9 0 [0] [[o0,(a1 7),o0,oT,o0,o0,(a1 7),(ov (.bool false)),o0],[(ov (i6 ((q+1:Nat):Int))),o0]] [Qb n57,ET y66.Channel (k:Int),Qb n57,Value.bool (!y66.Source)=Value.bool false,Wr ((q:Int)+1) (((q+1:Nat):Int))] [(1,pt z),(Lu c k y30 i aR3 p y55 q cR3),(Kz c k p y55 q),(6,Ac k),(FI n21),(8,Ac p),(EU c),(61,Ac k),(Gt c),(94,Ac p),(Jz y55),(PI q)] rfl ⟨rfl,et,rfl,by simp[h68],BQ,Ae⟩ ?_
      refine Cb [0,1,2,3,4,5,6] (PL n36 c k y30 i n21 z aR3 p y55 q cR3 w) rfl rfl ?_
      have hT:=LD (p:=p) (x:=y55) (k:=(k:Int)) (b:=false) (j:=q) (by rw[←hy66];exact Wv (by revert h68;cases y66.Source <;> simp))
      refine BK [1,3,4,6,7,8,60,61,93,94,103,104] [(1,pt z),(Lu c k y30 i aR3 p y55 q cR3),(Kz c k p y55 q),(6,Ac k),(FI n21),(8,Ac p),(EU c),(61,Ac k),(Gt c),(94,Ac p),(Jz y55),(PI q)] ?_
      refine BD (fun a w' hs=>⟨y55.Am.xs.length - (q+1),by omega,(n57+1),(q+1),aR3,cR3,rfl,by omega,by omega,by(try dsimp only[Ko,JJ,F7,JO,F8,RX,LJ,J4,Lu,J5,Kz,J7,Io,Gt,EU,Jz,IB,PI,FI,PL]at hs ⊢);rw[hT];exact hs⟩)
     refine Az 6 3 [1] [[o0,(a1 7),o0,oT,o0,o0,(a1 7),(ov (.bool true)),o0],[o0,o0,(an 3 4)]] [Qb n57,ET y66.Channel (k:Int),Qb n57,Value.bool (!y66.Source)=Value.bool true,Qb n21,Qb n21,Qb n21] [(1,pt z),(Kz c k p y55 q),(6,Ac k),(FI n21),(8,Ac p),(EU c),(61,Ac k),(Gt c),(94,Ac p),(Jz y55),(104,Ac q),(9,Ac q),(YL c k y30 i aR3 p y55 q cR3),(126,i6 (IR c k (Dw c (k:Int) false p++CZ p y55 (k:Int) false q).length)),(127,.agg (AL.arr y30))] rfl ⟨rfl,et,rfl,by simp[h68],rfl,rfl,rfl,Ae⟩ ?_
     refine Bf 81 #[.agg (AL.arr y30)] (some 128) (i6 (portOf y30)) (fun w69 hw69=>Vu w69 y30 (he29.ext (hw69.ext rfl) (fun _ h=>h))) (fun n70 (hn71:n57+1≤n70) => ?_)
     refine EY 0 5 [] [[o0,o0,o0,o0,o0]] [] [(1,pt z),(Kz c k p y55 q),(6,Ac k),(FI n21),(8,Ac p),(EU c),(61,Ac k),(Gt c),(94,Ac p),(Jz y55),(104,Ac q),(YL c k y30 i aR3 p y55 q cR3),(133,.slice (some ⟨n70,0,none⟩) 1 1)] ⟨w,n70+1,[(Ak w),(F8 c z),(F7 c z),(RX c k y30 i z aR3 p y55 q cR3),(JO y30 n21),(JJ c k n21),(Ko n36 c k y30),(bk n57 (Bh.arr y66) 57),(bk n70 #[i6 (IR c k (Dw c (k:Int) false p++CZ p y55 (k:Int) false q).length),i6 (portOf y30),i6 8,Ac p,Ac q] 120)]⟩ rfl Ae ?_
     refine PW z 3 8 (GI c i++IW c k++[(⟨Dl c k,2,(⟨6,(k:Int),0⟩:Du)⟩:BR)]++[(⟨Dl c k+2,BV y30,(⟨7,(k:Int),0⟩:Du)⟩:BR)]++Jk c k (Dw c (k:Int) false p++CZ p y55 (k:Int) false q)) [(⟨IR c k (Dw c (k:Int) false p++CZ p y55 (k:Int) false q).length,portOf y30,(⟨8,(p:Int),(q:Int)⟩:Du)⟩:BR)] BR.cells 120 5 40 (.slice aR3 ((GI c i++IW c k++[(⟨Dl c k,2,(⟨6,(k:Int),0⟩:Du)⟩:BR)]++[(⟨Dl c k+2,BV y30,(⟨7,(k:Int),0⟩:Du)⟩:BR)]++Jk c k (Dw c (k:Int) false p++CZ p y55 (k:Int) false q)).length) cR3) n70 1 1 #[i6 (IR c k (Dw c (k:Int) false p++CZ p y55 (k:Int) false q).length),i6 (portOf y30),i6 8,Ac p,Ac q] 120 (0,0) true (some 134) (by simp only[List.length_cons,List.length_nil,List.length_append];omega) (show z≤n70+1 by omega) (fun ax72 cp73 n74 (hn75:n70+1≤n74) => ?_)
     refine BP 3 2 [] [[o0],[o0,(an 3 4)]] [Qb n21,Qb n21,Qb n21] [(1,pt z),(6,Ac k),(FI n21),(8,Ac p),(EU c),(61,Ac k),(Gt c),(94,Ac p),(Jz y55),(104,Ac q),(XZ c k y30 i p y55 q ax72 cp73),(135,i6 (IR c k (Dw c (k:Int) false p++CZ p y55 (k:Int) false q).length)),(136,.agg (AL.arr y30))] rfl ⟨rfl,rfl,rfl,Ae⟩ ?_
     refine Bf 81 #[.agg (AL.arr y30)] (some 137) (i6 (portOf y30)) (fun w76 hw76=>Vu w76 y30 (he29.ext (hw76.ext rfl) (fun _ h=>h))) (fun n77 (hn78:n74≤n77) => ?_)
     refine BP 5 0 [] [[(ov (i6 ((IR c k (Dw c (k:Int) false p++CZ p y55 (k:Int) false q).length)+(portOf y30)))),o0],[(ov (i6 ((q+1:Nat):Int))),o0]] [Wr ((IR c k (Dw c (k:Int) false p++CZ p y55 (k:Int) false q).length:Int)+(portOf y30)) ((IR c k (Dw c (k:Int) false p++CZ p y55 (k:Int) false q).length)+(portOf y30)),Wr ((q:Int)+1) (((q+1:Nat):Int))] [(1,pt z),(6,Ac k),(FI n21),(8,Ac p),(EU c),(61,Ac k),(Gt c),(94,Ac p),(Jz y55),(PI q),(XZ c k y30 i p y55 q ax72 cp73),(4,i6 ((IR c k (Dw c (k:Int) false p++CZ p y55 (k:Int) false q).length)+(portOf y30)))] rfl ⟨BQ,BQ,Ae⟩ ?_
     refine Cb [0,1,2,3,4,5,6] [(Ak w),(F8 c z),(F7 c z),(BJ z 120 5 BR.cells (.slice ax72 ((GI c i++IW c k++[(⟨Dl c k,2,(⟨6,(k:Int),0⟩:Du)⟩:BR)]++[(⟨Dl c k+2,BV y30,(⟨7,(k:Int),0⟩:Du)⟩:BR)]++Jk c k (Dw c (k:Int) false p++CZ p y55 (k:Int) false q)++[(⟨IR c k (Dw c (k:Int) false p++CZ p y55 (k:Int) false q).length,portOf y30,(⟨8,(p:Int),(q:Int)⟩:Du)⟩:BR)]).length) cp73) (GI c i++IW c k++[(⟨Dl c k,2,(⟨6,(k:Int),0⟩:Du)⟩:BR)]++[(⟨Dl c k+2,BV y30,(⟨7,(k:Int),0⟩:Du)⟩:BR)]++Jk c k (Dw c (k:Int) false p++CZ p y55 (k:Int) false q)++[(⟨IR c k (Dw c (k:Int) false p++CZ p y55 (k:Int) false q).length,portOf y30,(⟨8,(p:Int),(q:Int)⟩:Du)⟩:BR)])),(JO y30 n21),(JJ c k n21),(Ko n36 c k y30)] rfl rfl ?_
     have hT:=Qc (p:=p) (x:=y55) (k:=(k:Int)) (b:=false) (j:=q) (by rw[←hy66];exact XQ (by omega) (by revert h68;cases y66.Source <;> simp))
     refine BK [1,3,4,6,7,8,60,61,93,94,103,104] [(1,pt z),(XZ c k y30 i p y55 q ax72 cp73),(4,i6 ((IR c k (Dw c (k:Int) false p++CZ p y55 (k:Int) false q).length)+(portOf y30))),(6,Ac k),(FI n21),(8,Ac p),(EU c),(61,Ac k),(Gt c),(94,Ac p),(Jz y55),(PI q)] ?_
     refine BD (fun a w' hs=>⟨y55.Am.xs.length - (q+1),by omega,n77,(q+1),ax72,cp73,rfl,by omega,by omega,by(try dsimp only[Ko,JJ,F7,JO,F8,RX,LJ,J4,XZ,YL,Lu,J5,Kz,J7,Io,Gt,EU,Jz,IB,PI,FI,PL]at hs ⊢);rw[hT,←List.append_assoc,Zc1,←List.append_assoc,WC,←hy30,show IR c k ((Dw c (k:Int) false p++CZ p y55 (k:Int) false q)++[(⟨(p:Int),(q:Int)⟩:GH)]).length=IR c k (Dw c (k:Int) false p++CZ p y55 (k:Int) false q).length+portOf y30 from by rw[List.length_append,List.length_singleton,Zc5,←hy30]];exact hs⟩)
    refine Az 9 0 [0] [[o0,(a1 7),o0,oF,o0,o0],[(ov (i6 ((q+1:Nat):Int))),o0]] [Qb n57,EF y66.Channel (k:Int),Wr ((q:Int)+1) (((q+1:Nat):Int))] [(1,pt z),(Lu c k y30 i aR3 p y55 q cR3),(Kz c k p y55 q),(6,Ac k),(FI n21),(8,Ac p),(EU c),(61,Ac k),(Gt c),(94,Ac p),(Jz y55),(PI q)] rfl ⟨rfl,ef,BQ,Ae⟩ ?_
    refine Cb [0,1,2,3,4,5,6] (PL n36 c k y30 i n21 z aR3 p y55 q cR3 w) rfl rfl ?_
    have hT:=LD (p:=p) (x:=y55) (k:=(k:Int)) (b:=false) (j:=q) (by rw[←hy66];exact Xv (by omega))
    refine BK [1,3,4,6,7,8,60,61,93,94,103,104] [(1,pt z),(Lu c k y30 i aR3 p y55 q cR3),(Kz c k p y55 q),(6,Ac k),(FI n21),(8,Ac p),(EU c),(61,Ac k),(Gt c),(94,Ac p),(Jz y55),(PI q)] ?_
    refine BD (fun a w' hs=>⟨y55.Am.xs.length - (q+1),by omega,(n57+1),(q+1),aR3,cR3,rfl,by omega,by omega,by(try dsimp only[Ko,JJ,F7,JO,F8,RX,LJ,J4,YL,Lu,J5,Kz,J7,Io,Gt,EU,Jz,IB,PI,FI,PL]at hs ⊢);rw[hT];exact hs⟩)
   refine Az 13 0 [0] [[oF],[(ov (i6 ((p+1:Nat):Int))),o0]] [BF ((q:Int)<(y55.Am.xs.length:Int)),Wr ((p:Int)+1) (((p+1:Nat):Int))] [(1,pt z),(Lu c k y30 i aR3 p y55 q cR3),(Kz c k p y55 q),(6,Ac k),(FI n21),(EU c),(61,Ac k),(Gt c),(94,i6 ((p+1:Nat):Int))] rfl ⟨bf,BQ,Ae⟩ ?_
   refine BD (fun a w' hs=>⟨c.Aa.xs.length - (p+1),by omega,n57,(p+1),aR3,cR3,rfl,by omega,by omega,by(try dsimp only[Ko,JJ,F7,JO,F8,RX,LJ,J4,Lu,J5,Kz,J7,Io,Gt,EU,Jz,IB,PI,FI,PL]at hs ⊢);rw[MW,←hy55,show y55.Am.xs.length=q by omega];exact hs⟩)
  refine Az 13 0 [0] [[oF],[(ov (i6 ((k+1:Nat):Int))),o0]] [BF ((p:Int)<(c.Aa.xs.length:Int)),Wr ((k:Int)+1) (((k+1:Nat):Int))] [(1,pt z),(J5 c k y30 i p aR2 cR2),(J7 c k p),(EU c),(61,i6 ((k+1:Nat):Int))] rfl ⟨bf,BQ,Ae⟩ ?_
  refine Cb [0,1,2,3] [(Ak w),(F8 c z),(F7 c z),(LJ c k y30 i z p aR2 cR2)] rfl rfl ?_
  refine BK [1,3,4,60,61] [(1,pt z),(J5 c k y30 i p aR2 cR2),(J7 c k p),(EU c),(61,i6 ((k+1:Nat):Int))] ?_
  refine BD (fun a w' hs=>⟨c.Ag.xs.length - (k+1),by omega,n46,(k+1),aR2,cR2,rfl,by omega,by omega,by(try dsimp only[Ko,JJ,F7,JO,F8,RX,LJ,J4,Lu,J5,Kz,J7,Io,Gt,EU,Jz,IB,FI,PL]at hs ⊢);rw[Zk,Vz,Zc6,←hy30,show Kw c k=(Dw c (k:Int) false p).length from by rw[show p=c.Aa.xs.length by omega];rfl,show CQ c (k:Int) false=Dw c (k:Int) false p from by rw[show p=c.Aa.xs.length by omega];rfl,←List.append_assoc,←List.append_assoc];simp only[List.append_assoc,List.cons_append,List.nil_append]at hs ⊢;exact hs⟩)
 refine Az 12 0 [0] [[oF]] [BF ((k:Int)<(c.Ag.xs.length:Int))] [(1,pt z),(IB c k i aR1 cR1),(4,i6 (Dl c k)),(EU c),(61,Ac k),(62,.bool false)] rfl ⟨bf,Ae⟩ ?_
 have hkc:k=c.Ag.xs.length:=by omega
 have hfr:Ns c=(Dl c k+16 - 1) / 16:=by rw[hkc];rfl
 refine DC [1,3,4] [(1,pt z),(IB c k i aR1 cR1),(4,i6 (Dl c k))] ?_
 refine Di (fun m a w'=>∃ (n80:Nat) (at8:Int),m=(16*Ns c - at8).toNat∧n21≤n80∧(Dl c k≤at8∧at8≤16*Ns c)∧St 181 [(1,pt z),(IB c k i aR1 cR1),(4,i6 at8)] [] ⟨w,n80,[(Ak w),(F8 c z),(F7 c z),(J4 c k i z aR1 cR1)]⟩ a w') ((16*Ns c - Dl c k).toNat) ?_ ?_
 ·intro a w' hs;exact⟨n21,(Dl c k),rfl,Nat.le_refl _,by omega,hs⟩
 rintro m a w' ⟨n80,at8,rfl,hn79,hat,hs⟩
 refine(?_:G Tryd.prog 181 [(1,pt z),(IB c k i aR1 cR1),(4,i6 at8)] [] ⟨w,n80,[(Ak w),(F8 c z),(F7 c z),(J4 c k i z aR1 cR1)]⟩ _ _ _) a w' hs
 clear hs a w'
 refine Ce <| Ce ?_
 by_cases h81:(at8 % 16:Int)=0
 ·refine Az 15 0 [0] [[o0,(ov (i6 (at8 % 16))),oF],[o0,(a1 1),o0,o0]] [i6 (Int.tmod (at8) 16)=i6 (at8 % 16),NF (at8 % 16) 0,Qb z] [(1,pt z),(IB c k i aR1 cR1),(4,i6 at8),(Hw c),(150,i6 0)] rfl ⟨congrArg (Value.int .i64) (Zd3 (by omega) (by omega)),nf,rfl,Ae⟩ ?_
  refine Di (fun m a w'=>∃ (n83:Nat) (p:Nat) (aR5:Option Addr) (cR5:Nat),m=c.Aa.xs.length - p∧n80≤n83∧(p≤c.Aa.xs.length)∧St 181 [(1,pt z),(J3 c k i p aR5 cR5),(4,i6 (16*Et c p)),(Hw c),(150,Ac p)] [] ⟨w,n83,[(Ak w),(F8 c z),(F7 c z),(OI c k i z p aR5 cR5)]⟩ a w') (c.Aa.xs.length - 0) ?_ ?_
  ·intro a w' hs;exact⟨n80,0,aR1,cR1,rfl,Nat.le_refl _,Nat.zero_le _,by(try dsimp only[Ko,JJ,F7,JO,F8,LJ,OI,J4,J5,J7,J3,Hw,Io,Gt,EU,IB,FI]at hs ⊢);rw[show Ou c 0=[]from rfl,List.append_nil,show 16*Et c 0=at8 from by rw[show Et c 0=Ns c from rfl];omega];exact hs⟩
  rintro m a w' ⟨n83,p,aR5,cR5,rfl,hn82,hkp,hs⟩
  refine(?_:G Tryd.prog 181 [(1,pt z),(J3 c k i p aR5 cR5),(4,i6 (16*Et c p)),(Hw c),(150,Ac p)] [] ⟨w,n83,[(Ak w),(F8 c z),(F7 c z),(OI c k i z p aR5 cR5)]⟩ _ _ _) a w' hs
  clear hs a w'
  have htb:=SA hfine p (by omega)
  have hlt:=Za2 (c:=c) p
  refine Ce ?_
  by_cases h84:(p:Int)<(c.Aa.xs.length:Int)
  ·refine Az 23 0 [1] [[oT],[o0,o0],[o0],[o0]] [BT ((p:Int)<(c.Aa.xs.length:Int))] [(1,pt z),(J3 c k i p aR5 cR5),(4,i6 (16*Et c p)),(11,Ac p),(12,i6 1),(Hw c),(150,Ac p),(153,i6 0)] rfl ⟨bt,Ae⟩ ?_
   refine Di (fun m a w'=>∃ (n86:Nat) (t:Nat),m=16 - t∧n83≤n86∧(t≤16)∧St 181 [(1,pt z),(J3 c k i p aR5 cR5),(4,i6 (16*Et c p)),(11,Ac p),(Nh c p t),(Hw c),(150,Ac p),(153,Ac t)] [] ⟨w,n86,[(Ak w),(F8 c z),(F7 c z),(OI c k i z p aR5 cR5)]⟩ a w') (16 - 0) ?_ ?_
   ·intro a w' hs;exact⟨n83,0,rfl,Nat.le_refl _,Nat.zero_le _,hs⟩
   rintro m a w' ⟨n86,t,rfl,hn85,hkt,hs⟩
   refine(?_:G Tryd.prog 181 [(1,pt z),(J3 c k i p aR5 cR5),(4,i6 (16*Et c p)),(11,Ac p),(Nh c p t),(Hw c),(150,Ac p),(153,Ac t)] [] ⟨w,n86,[(Ak w),(F8 c z),(F7 c z),(OI c k i z p aR5 cR5)]⟩ _ _ _) a w' hs
   clear hs a w'
   have hcl:(List.range t).countP (fun b=>IL (gd c.Aa.xs p) b)≤t:=Nat.le_trans List.countP_le_length (by simp)
   refine Ce ?_
   by_cases h87:(t:Int)<16
   ·refine Az 14 0 [1] [[oT],[o0,o0]] [BT ((t:Int)<16)] [(1,pt z),(J3 c k i p aR5 cR5),(4,i6 (16*Et c p)),(11,Ac p),(Nh c p t),(Hw c),(150,Ac p),(153,Ac t),(13,Ac t)] rfl ⟨bt,Ae⟩ ?_
    obtain⟨b88,o89,ha90,hF92,hc91⟩:=(hc.Aa).1.all (show 0<c.Aa.xs.length by omega)
    replace ha90:c.Aa.a=some ⟨b88,o89,none⟩:=ha90
    have hc93:=hc91 p (show p<c.Aa.xs.length by omega)
    have he94:=(hc.Aa).2 p (show p<c.Aa.xs.length by omega)
    obtain⟨y95,hy95⟩:∃ y_,y_=gd c.Aa.xs p:=⟨_,rfl⟩
    rw[←hy95]at he94 hc93
    have h8p:=h8 p (by omega);rw[←hy95]at h8p
    refine Az 1 6 [] [[o0,(DN 1 b88 o89 c.Aa),o0,(oi p),(ol 0 (Ap.arr y95)),o0]] [Qb z,Dh b88 o89 c.Aa,Ci p,p<c.Aa.xs.length,BN,Fa w b88 (o89+p*8) (Ap.arr y95)] [(1,pt z),(J3 c k i p aR5 cR5),(4,i6 (16*Et c p)),(11,Ac p),(Nh c p t),(Hw c),(150,Ac p),(153,Ac t),(160,.agg (Ap.arr y95)),(161,Ac t)] rfl ⟨rfl,Df ha90,rfl,(by omega),rfl,Dt hc93,Ae⟩ ?_
    refine Bf 84 #[.agg (Ap.arr y95),Ac t] (some 162) (.bool (IL y95 t)) (fun w96 hw96=>Zbz w96 y95 t (by omega) (he94.ext (hw96.ext rfl) (fun _ h=>h)) (ZaB (by rw[hy95];exact hfine.parts p (by omega)))) (fun n97 (hn98:n86≤n97) => ?_)
    refine Dc [1,3,4,11,12,149,150,153,162] [(1,pt z),(J3 c k i p aR5 cR5),(4,i6 (16*Et c p)),(11,Ac p),(Nh c p t),(Hw c),(150,Ac p),(153,Ac t),(162,.bool (IL y95 t))] ?_
    refine TU (by kernel_rfl) ?_
    refine IM ?_
    by_cases h99:(IL y95 t)=true
    ·refine Az 7 0 [3] [[o0,(ov (i6 (((1+(List.range t).countP (fun b=>IL (gd c.Aa.xs p) b))+1:Nat):Int))),o0],[(ov (i6 ((t+1:Nat):Int))),o0]] [Value.bool (IL y95 t)=Value.bool true,Wr ((((1+(List.range t).countP (fun b=>IL (gd c.Aa.xs p) b):Nat):Int):Int)+1) ((((1+(List.range t).countP (fun b=>IL (gd c.Aa.xs p) b))+1:Nat):Int)),Wr ((t:Int)+1) (((t+1:Nat):Int))] [(1,pt z),(J3 c k i p aR5 cR5),(4,i6 (16*Et c p)),(11,Ac p),(VA c p t),(Hw c),(150,Ac p),(153,i6 ((t+1:Nat):Int))] rfl ⟨(congrArg Value.bool h99),BQ,BQ,Ae⟩ ?_
     have hT:=Vk (p:=fun b=>IL (gd c.Aa.xs p) b) (j:=t)
     rw[←hy95]at hT
     simp only[h99,if_true,if_false,Nat.add_zero]at hT
     refine BK [1,3,4,11,12,149,150,153] [(1,pt z),(J3 c k i p aR5 cR5),(4,i6 (16*Et c p)),(11,Ac p),(VA c p t),(Hw c),(150,Ac p),(153,i6 ((t+1:Nat):Int))] ?_
     refine BD (fun a w' hs=>⟨16 - (t+1),by omega,n97,(t+1),rfl,by omega,by omega,by(try dsimp only[Ko,JJ,F7,JO,F8,LJ,OI,J4,J5,VA,Nh,J7,J3,Hw,Io,Gt,EU,IB,FI]at hs ⊢);rw[←hy95]at hs ⊢;rw[hT];exact hs⟩)
    refine Az 6 0 [2] [[(ov (i6 ((t+1:Nat):Int))),o0]] [Value.bool (IL y95 t)=Value.bool false,Wr ((t:Int)+1) (((t+1:Nat):Int))] [(1,pt z),(J3 c k i p aR5 cR5),(4,i6 (16*Et c p)),(11,Ac p),(Nh c p t),(Hw c),(150,Ac p),(153,i6 ((t+1:Nat):Int))] rfl ⟨(congrArg Value.bool (Bool.eq_false_iff.2 h99)),BQ,Ae⟩ ?_
    have hT:=Vk (p:=fun b=>IL (gd c.Aa.xs p) b) (j:=t)
    rw[←hy95]at hT
    simp only[(Bool.eq_false_iff.2 h99),Bool.false_eq_true,if_true,if_false,Nat.add_zero]at hT
    refine BK [1,3,4,11,12,149,150,153] [(1,pt z),(J3 c k i p aR5 cR5),(4,i6 (16*Et c p)),(11,Ac p),(Nh c p t),(Hw c),(150,Ac p),(153,i6 ((t+1:Nat):Int))] ?_
    refine BD (fun a w' hs=>⟨16 - (t+1),by omega,n97,(t+1),rfl,by omega,by omega,by(try dsimp only[Ko,JJ,F7,JO,F8,LJ,OI,J4,J5,VA,Nh,J7,J3,Hw,Io,Gt,EU,IB,FI]at hs ⊢);rw[←hy95]at hs ⊢;rw[hT];exact hs⟩)
   refine Az 15 0 [0] [[oF],[o0,o0]] [BF ((t:Int)<16)] [(1,pt z),(J3 c k i p aR5 cR5),(4,i6 (16*Et c p)),(11,Ac p),(Hw c),(150,Ac p),(Qo c p t),(167,i6 0)] rfl ⟨bf,Ae⟩ ?_
   refine Di (fun m a w'=>∃ (n101:Nat) (u:Nat) (aR7:Option Addr) (cR7:Nat),m=(1+(List.range t).countP (fun b=>IL (gd c.Aa.xs p) b)) - u∧n86≤n101∧(u≤(1+(List.range t).countP (fun b=>IL (gd c.Aa.xs p) b)))∧St 181 [(1,pt z),(3,.slice aR7 ((GI c i++IW c k++Ou c p++Js c p u).length) cR7),(QG c p u),(11,Ac p),(Hw c),(150,Ac p),(Qo c p t),(167,Ac u)] [] ⟨w,n101,[(Ak w),(F8 c z),(F7 c z),(VY c k i z p aR7 u cR7)]⟩ a w') ((1+(List.range t).countP (fun b=>IL (gd c.Aa.xs p) b)) - 0) ?_ ?_
   ·intro a w' hs;exact⟨n86,0,aR5,cR5,rfl,Nat.le_refl _,Nat.zero_le _,by(try dsimp only[Ko,JJ,F7,JO,F8,LJ,VY,OI,J4,J5,VA,Qo,Nh,J7,J3,Hw,Io,Gt,EU,IB,QG,FI]at hs ⊢);rw[show Js c p 0=[]from rfl,List.append_nil,show 16*(Et c p+((0:Nat):Int))=16*Et c p from by omega];exact hs⟩
   rintro m a w' ⟨n101,u,aR7,cR7,rfl,hn100,hku,hs⟩
   refine(?_:G Tryd.prog 181 [(1,pt z),(3,.slice aR7 ((GI c i++IW c k++Ou c p++Js c p u).length) cR7),(QG c p u),(11,Ac p),(Hw c),(150,Ac p),(Qo c p t),(167,Ac u)] [] ⟨w,n101,[(Ak w),(F8 c z),(F7 c z),(VY c k i z p aR7 u cR7)]⟩ _ _ _) a w' hs
   clear hs a w'
   have hlu:=Zab (c:=c) (p:=p) (n:=u)
   refine Ce ?_
   by_cases h102:(u:Int)<((1+(List.range t).countP (fun b=>IL (gd c.Aa.xs p) b):Nat):Int)
   ·refine q_c 11 6 [1] [[oT],[o0,o0,o0,o0,o0,o0]] [BT ((u:Int)<((1+(List.range t).countP (fun b=>IL (gd c.Aa.xs p) b):Nat):Int))] [(1,pt z),(QG c p u),(11,Ac p),(Hw c),(150,Ac p),(Qo c p t),(167,Ac u),(169,.slice aR7 ((GI c i++IW c k++Ou c p++Js c p u).length) cR7),(174,.slice (some ⟨n101,0,none⟩) 1 1)] ⟨w,n101+1,[(Ak w),(F8 c z),(F7 c z),(VY c k i z p aR7 u cR7),(bk n101 #[i6 (16*(Et c p+(u:Int))),i6 16,i6 9,Ac p,i6 0] 120)]⟩ rfl ⟨bt,Ae⟩ ?_
    refine PW z 3 4 (GI c i++IW c k++Ou c p++Js c p u) [(⟨16*(Et c p+(u:Int)),16,(⟨9,(p:Int),0⟩:Du)⟩:BR)] BR.cells 120 5 40 (.slice aR7 ((GI c i++IW c k++Ou c p++Js c p u).length) cR7) n101 1 1 #[i6 (16*(Et c p+(u:Int))),i6 16,i6 9,Ac p,i6 0] 120 (0,0) true (some 175) (by simp only[List.length_cons,List.length_nil,List.length_append];omega) (show z≤n101+1 by omega) (fun ax103 cp104 n105 (hn106:n101+1≤n105) => ?_)
    refine BP 8 0 [] [[o0],[o0,(ov (i6 ((16*(Et c p+(u:Int)))+16))),o0],[(ov (i6 ((u+1:Nat):Int))),o0]] [Wr ((16*(Et c p+(u:Int)):Int)+16) ((16*(Et c p+(u:Int)))+16),Wr ((u:Int)+1) (((u+1:Nat):Int))] [(1,pt z),(4,i6 ((16*(Et c p+(u:Int)))+16)),(11,Ac p),(Hw c),(150,Ac p),(Qo c p t),(167,i6 ((u+1:Nat):Int)),(3,.slice ax103 ((GI c i++IW c k++Ou c p++Js c p u++[(⟨16*(Et c p+(u:Int)),16,(⟨9,(p:Int),0⟩:Du)⟩:BR)]).length) cp104)] rfl ⟨BQ,BQ,Ae⟩ ?_
    refine Cb [0,1,2,3] [(Ak w),(F8 c z),(F7 c z),(BJ z 120 5 BR.cells (.slice ax103 ((GI c i++IW c k++Ou c p++Js c p u++[(⟨16*(Et c p+(u:Int)),16,(⟨9,(p:Int),0⟩:Du)⟩:BR)]).length) cp104) (GI c i++IW c k++Ou c p++Js c p u++[(⟨16*(Et c p+(u:Int)),16,(⟨9,(p:Int),0⟩:Du)⟩:BR)]))] rfl rfl ?_
    refine BK [1,3,4,11,149,150,166,167] [(1,pt z),(3,.slice ax103 ((GI c i++IW c k++Ou c p++Js c p u++[(⟨16*(Et c p+(u:Int)),16,(⟨9,(p:Int),0⟩:Du)⟩:BR)]).length) cp104),(4,i6 ((16*(Et c p+(u:Int)))+16)),(11,Ac p),(Hw c),(150,Ac p),(Qo c p t),(167,i6 ((u+1:Nat):Int))] ?_
    refine BD (fun a w' hs=>⟨(1+(List.range t).countP (fun b=>IL (gd c.Aa.xs p) b)) - (u+1),by omega,n105,(u+1),ax103,cp104,rfl,by omega,by omega,by(try dsimp only[Ko,JJ,F7,JO,F8,LJ,VY,OI,J4,J5,Qo,Nh,J7,J3,Hw,Io,Gt,EU,IB,QG,FI]at hs ⊢);rw[Vx,←List.append_assoc,show 16*(Et c p+((u+1:Nat):Int))=(16*(Et c p+(u:Int)))+16 from by omega];exact hs⟩)
   refine Az 13 0 [0] [[oF],[(ov (i6 ((p+1:Nat):Int))),o0]] [BF ((u:Int)<((1+(List.range t).countP (fun b=>IL (gd c.Aa.xs p) b):Nat):Int)),Wr ((p:Int)+1) (((p+1:Nat):Int))] [(1,pt z),(3,.slice aR7 ((GI c i++IW c k++Ou c p++Js c p u).length) cR7),(QG c p u),(Hw c),(150,i6 ((p+1:Nat):Int))] rfl ⟨bf,BQ,Ae⟩ ?_
   have hnn:1+Jq (gd c.Aa.xs p)=u:=by rw[←ZcT (ZaB (hfine.parts p (by omega))),show 16=t by omega];omega
   refine BK [1,3,4,149,150] [(1,pt z),(3,.slice aR7 ((GI c i++IW c k++Ou c p++Js c p u).length) cR7),(QG c p u),(Hw c),(150,i6 ((p+1:Nat):Int))] ?_
   refine BD (fun a w' hs=>⟨c.Aa.xs.length - (p+1),by omega,n101,(p+1),aR7,cR7,rfl,by omega,by omega,by(try dsimp only[Ko,JJ,F7,JO,F8,LJ,VY,OI,J4,J5,Qo,Nh,J7,J3,Hw,Io,Gt,EU,IB,QG,FI]at hs ⊢);rw[Zm,hnn,←List.append_assoc,show 16*Et c (p+1)=16*(Et c p+(u:Int))from by rw[WJ];omega];exact hs⟩)
  refine Az 15 0 [0] [[oF],[o0,o0]] [BF ((p:Int)<(c.Aa.xs.length:Int))] [(2,.slice aR5 ((GI c i++IW c k++Ou c p).length) cR5)] rfl ⟨bf,Ae⟩ ?_
  refine AA [] [] (.slice aR5 ((GI c i++IW c k++Ou c p).length) cR5) Ae ?_
  intro w107 hw107
  have hpo:GI c i++IW c k++Ou c p=Dy c:=by rw[show i=c.Aa.xs.length by omega,show k=c.Ag.xs.length by omega,show p=c.Aa.xs.length by omega];rfl
  have hrow:=hw107.at (i:=3) rfl
  (try dsimp only[Ko,JJ,F7,JO,F8,LJ,OI,J4,J5,Nh,J7,J3,Hw,Io,Gt,EU,IB,FI]at hrow)
  rw[hpo]at hrow ⊢
  exact⟨_,_,rfl,hz ▸ MI (fun _=>rfl) hrow (by have:=pieces_len hfine;omega),AO hw107⟩
 refine Az 10 0 [1] [[o0,(ov (i6 (at8 % 16))),oT],[o0,(ov (i6 (at8+1))),o0]] [i6 (Int.tmod (at8) 16)=i6 (at8 % 16),NT (at8 % 16) 0,Wr ((at8:Int)+1) (at8+1)] [(1,pt z),(IB c k i aR1 cR1),(4,i6 (at8+1))] rfl ⟨congrArg (Value.int .i64) (Zd3 (by omega) (by omega)),nt,BQ,Ae⟩ ?_
 refine BD (fun a w' hs=>⟨(16*Ns c - (at8+1)).toNat,by omega,n80,(at8+1),rfl,by omega,by omega,hs⟩)
def nP(p:Aw):Aw:={ p with Tables:=⟨none,0,p.Tables.xs⟩ }
def nC(p:AC):AC:={ p with Ed:=⟨none,0,p.Ed.xs⟩ }
structure Fold where
 bar:Int
 ps:List Aw
 cs:List AC
 ch:Int
 fin:Int
def UK(p:Aw)(at_:Int):Aw:=if p.Root=0 then{ p with Root:=at_ / 16 }else{ p with Tables:=⟨none,0,p.Tables.xs++[at_ / 16]⟩ }
def dstF(p:AC)(y:BR):AC:={ p with Ed:=⟨none,0,p.Ed.xs++[⟨y.AP.Index,y.AP.Port,y.At⟩]⟩ }
def Jv(F:Fold)(y:BR):Fold :=
 if y.AP.Kind=2 then{ F with bar:=y.At,fin:=y.At+y.Size }
 else if y.AP.Kind=3 then{ F with ps:=F.ps.set y.AP.Index.toNat { gd F.ps y.AP.Index.toNat with Lock:=y.At },fin:=y.At+y.Size }
 else if y.AP.Kind=4 then{ F with ps:=F.ps.set y.AP.Index.toNat { gd F.ps y.AP.Index.toNat with OV:=y.At },fin:=y.At+y.Size }
 else if y.AP.Kind=5 then{ F with ps:=F.ps.set y.AP.Index.toNat { gd F.ps y.AP.Index.toNat with State:=y.At },fin:=y.At+y.Size }
 else if y.AP.Kind=6 then{ F with cs:=F.cs.set y.AP.Index.toNat { gd F.cs y.AP.Index.toNat with Lock:=y.At },ch:=y.AP.Index,fin:=y.At+y.Size }
 else if y.AP.Kind=7 then{ F with cs:=F.cs.set y.AP.Index.toNat { gd F.cs y.AP.Index.toNat with PN:=y.At },fin:=y.At+y.Size }
 else if y.AP.Kind=8 then{ F with cs:=F.cs.set F.ch.toNat (dstF (gd F.cs F.ch.toNat) y),fin:=y.At+y.Size }
 else{ F with ps:=F.ps.set y.AP.Index.toNat (UK (gd F.ps y.AP.Index.toNat) y.At),fin:=y.At+y.Size }
def TV(c:Aj)(k:Nat):AC:=⟨0,0,(gd (CQ c (k:Int) true) 0).partition,(gd (CQ c (k:Int) true) 0).port,⟨none,0,[]⟩⟩
def F0(c:Aj):Fold:=⟨0,(List.range c.Aa.xs.length).map (fun _=>⟨0,0,0,0,⟨none,0,[]⟩⟩),(List.range c.Ag.xs.length).map (TV c),0,16*c.Kernel⟩
theorem map_set{α:Type}{n k:Nat}{f g:Nat→α}{v:α}(h1:g k=v)(h2:∀ q,q≠k→g q=f q):((List.range n).map f).set k v=(List.range n).map g:=by
 apply List.ext_getElem (by simp)
 intro i hi hi'
 rw[List.getElem_set]
 simp only[List.getElem_map,List.getElem_range]
 split
 ·rename_i e;subst e;exact h1.symm
 rename_i e;exact(h2 i (fun x=>e x.symm)).symm
theorem VB{α:Type}[Inhabited α]{n k:Nat}{f:Nat→α}(hk:k<n):gd ((List.range n).map f) k=f k:=by rw[F9 (by simpa using hk)];simp
def YX(c:Aj)(i:Nat):Nat→Aw:=fun p=>if p<i then Qn c p else⟨0,0,0,0,⟨none,0,[]⟩⟩
theorem foldP(c:Aj):∀ (i:Nat),i≤c.Aa.xs.length→∃ fin,(GI c i).foldl Jv (F0 c)=⟨16*c.Kernel,(List.range c.Aa.xs.length).map (YX c i),(F0 c).cs,0,fin⟩∧(i=0→fin=16*c.Kernel+2)
 | 0,_=>⟨16*c.Kernel+2,rfl,fun _=>rfl⟩
 | i+1,h=>by
  obtain⟨fin,e, -⟩:=foldP c i (by omega)
  refine⟨Dp c i+2+17+5, ?_,fun h=>by omega⟩
  rw[Zo,List.foldl_append,List.foldl_append,List.foldl_append,e]
  have hl:i<((List.range c.Aa.xs.length).map (YX c i)).length:=by simp;omega
  have hg:gd ((List.range c.Aa.xs.length).map (YX c i)) i=⟨0,0,0,0,⟨none,0,[]⟩⟩:=by rw[VB (by omega)];simp[YX]
  simp only[List.foldl_cons,List.foldl_nil,Jv,Int.toNat_natCast]
  simp only[if_true,if_false,reduceIte,show ¬ ((3:Int)=2)by decide,show ¬ ((4:Int)=2)by decide,show ¬ ((4:Int)=3)by decide,show ¬ ((5:Int)=2)by decide,show ¬ ((5:Int)=3)by decide,show ¬ ((5:Int)=4)by decide]
  rw[hg,JY hl,List.set_set,JY (by simpa using hl),List.set_set]
  rw[map_set (g:=YX c (i+1)) (by simp[YX,Qn]) (fun q hq=>by unfold YX;by_cases e:q<i <;> simp[e,show(q<i+1)=(q<i∨q=i)by apply propext;omega,hq])]
theorem Zbp(c:Aj)(k:Nat)(b:Int)(ps:List Aw)(cs:List AC)(hk:k<cs.length)(hc0:(gd cs k).Ed=⟨none,0,[]⟩)(fin:Int)(l:List GH)(hl:∀ j,j<l.length→gd l j=gd (CQ c (k:Int) false) j):∀ (j:Nat),j≤l.length→∃ fin',((List.range j).map (fun j=>WC c k (gd l j) j)).foldl Jv ⟨b,ps,cs,(k:Int),fin⟩=⟨b,ps,cs.set k { gd cs k with Ed:=⟨none,0,FD c k j⟩ },(k:Int),fin'⟩
 | 0,_=>⟨fin,by
  show _=(⟨b,ps,cs.set k { gd cs k with Ed:=⟨none,0,[]⟩ },(k:Int),fin⟩:Fold)
  rw[←hc0,show({ gd cs k with Ed:=(gd cs k).Ed }:AC)=gd cs k from rfl,F9 hk,List.set_getElem_self];rfl⟩
 | j+1,h=>by
  obtain⟨fin',e⟩:=Zbp c k b ps cs hk hc0 fin l hl j (by omega)
  refine⟨IR c k j+portOf (gd c.Ag.xs k), ?_⟩
  rw[List.range_succ,List.map_append,List.foldl_append,e]
  simp only[List.map_cons,List.map_nil,List.foldl_cons,List.foldl_nil,Jv,WC,Int.toNat_natCast]
  simp only[if_true,if_false,reduceIte,show ¬ ((8:Int)=2)by decide,show ¬ ((8:Int)=3)by decide,show ¬ ((8:Int)=4)by decide,show ¬ ((8:Int)=5)by decide,show ¬ ((8:Int)=6)by decide,show ¬ ((8:Int)=7)by decide]
  rw[JY hk,List.set_set,dstF,Xu,hl j (by omega)]
  rfl
def Xb(c:Aj)(k:Nat):Nat→AC:=fun q=>if q<k then Ku c q ⟨none,0,FD c q (Kw c q)⟩else TV c q
theorem foldC(c:Aj)(b:Int)(ps:List Aw)(fin:Int):∀ (k:Nat),k≤c.Ag.xs.length→∃ ch fin',(IW c k).foldl Jv ⟨b,ps,(F0 c).cs,0,fin⟩=⟨b,ps,(List.range c.Ag.xs.length).map (Xb c k),ch,fin'⟩∧(k=0→fin'=fin)
 | 0,_=>⟨0,fin,rfl,fun _=>rfl⟩
 | k+1,h=>by
  obtain⟨ch,fin',e, -⟩:=foldC c b ps fin k (by omega)
  have hg:gd ((List.range c.Ag.xs.length).map (Xb c k)) k=TV c k:=by rw[VB (by omega)];simp[Xb]
  have hl:k<((List.range c.Ag.xs.length).map (Xb c k)).length:=by simp;omega
  rw[Zk,List.foldl_append,e,Vz,List.foldl_append]
  simp only[List.foldl_cons,List.foldl_nil,Jv,Int.toNat_natCast]
  simp only[if_true,if_false,reduceIte,show ¬ ((6:Int)=2)by decide,show ¬ ((6:Int)=3)by decide,show ¬ ((6:Int)=4)by decide,show ¬ ((6:Int)=5)by decide,show ¬ ((7:Int)=2)by decide,show ¬ ((7:Int)=3)by decide,show ¬ ((7:Int)=4)by decide,show ¬ ((7:Int)=5)by decide,show ¬ ((7:Int)=6)by decide]
  rw[hg,JY hl,List.set_set]
  obtain⟨fin'',e2⟩:=Zbp c k b ps (((List.range c.Ag.xs.length).map (Xb c k)).set k { TV c k with Lock:=Dl c k,PN:=Dl c k+2 }) (by simpa using hl) (by rw[JY hl];rfl) (Dl c k+2+BV (gd c.Ag.xs k)) (CQ c (k:Int) false) (fun j hj=>rfl) (CQ c (k:Int) false).length (Nat.le_refl _)
  refine⟨(k:Int),fin'', ?_,fun h=>by omega⟩
  rw[Jk,e2,JY hl,List.set_set,map_set (g:=Xb c (k+1)) (by simp only[Xb,Nat.lt_succ_self,if_true];rfl) (fun q hq=>by unfold Xb;by_cases e:q<k <;> simp[e,show(q<k+1)=(q<k∨q=k)by apply propext;omega,hq])]
theorem Zal{c:Aj}(hf:Fine c):∀ (p:Nat),1≤Et c p
 | 0=>by
  have h1:=(UT hf _ (Nat.le_refl _)).1
  have h2:=hf.kn
  show 1≤Ns c
  unfold Ns
  unfold Dp at h1
  omega
 | p+1=>by have:=Zal hf p;rw[WJ];omega
theorem Zcf(c:Aj)(hf:Fine c)(p:Nat)(b ch fin:Int)(ps:List Aw)(cs:List AC)(hp:p<ps.length)(h0:gd ps p=Qn c p):∀ (u:Nat),(Js c p (u+1)).foldl Jv ⟨b,ps,cs,ch,fin⟩=⟨b,ps.set p (Hq c p ⟨none,0,Gs c p u⟩),cs,ch,16*(Et c p+(u:Int))+16⟩
 | 0=>by
  rw[Vx]
  simp only[Js,List.range_zero,List.map_nil,List.nil_append,List.foldl_cons,List.foldl_nil,Jv,Int.toNat_natCast]
  simp only[if_true,if_false,reduceIte,show ¬ ((9:Int)=2)by decide,show ¬ ((9:Int)=3)by decide,show ¬ ((9:Int)=4)by decide,show ¬ ((9:Int)=5)by decide,show ¬ ((9:Int)=6)by decide,show ¬ ((9:Int)=7)by decide,show ¬ ((9:Int)=8)by decide]
  rw[h0]
  have:UK (Qn c p) (16*(Et c p+((0:Nat):Int)))=Hq c p ⟨none,0,Gs c p 0⟩:=by
   unfold UK
   rw[if_pos (show(Qn c p).Root=0 from rfl)]
   show(⟨Dp c p,Dp c p+2,Dp c p+2+17,_,⟨none,0,[]⟩⟩:Aw)=_
   rw[show 16*(Et c p+((0:Nat):Int)) / 16=Et c p by omega];rfl
  rw[this]
 | u+1=>by
  have ht:=Zal hf p
  rw[Vx,List.foldl_append,Zcf c hf p b ch fin ps cs hp h0 u]
  simp only[List.foldl_cons,List.foldl_nil,Jv,Int.toNat_natCast]
  simp only[if_true,if_false,reduceIte,show ¬ ((9:Int)=2)by decide,show ¬ ((9:Int)=3)by decide,show ¬ ((9:Int)=4)by decide,show ¬ ((9:Int)=5)by decide,show ¬ ((9:Int)=6)by decide,show ¬ ((9:Int)=7)by decide,show ¬ ((9:Int)=8)by decide]
  rw[JY hp,List.set_set]
  have:UK (Hq c p ⟨none,0,Gs c p u⟩) (16*(Et c p+((u+1:Nat):Int)))=Hq c p ⟨none,0,Gs c p (u+1)⟩:=by
   unfold UK
   rw[if_neg (show ¬ (Hq c p ⟨none,0,Gs c p u⟩).Root=0 by show ¬ Et c p=0;omega)]
   rw[YO]
   show(⟨Dp c p,Dp c p+2,Dp c p+2+17,Et c p,⟨none,0,Gs c p u++[_]⟩⟩:Aw)=_
   rw[show 16*(Et c p+((u+1:Nat):Int)) / 16=Et c p+1+(u:Int)by omega];rfl
  rw[this]
def psT(c:Aj)(i:Nat):Nat→Aw:=fun p=>if p<i then Hq c p ⟨none,0,Gs c p (Jq (gd c.Aa.xs p))⟩else Qn c p
theorem foldT(c:Aj)(hf:Fine c)(b ch fin:Int)(cs:List AC):∀ (i:Nat),i≤c.Aa.xs.length→∃ fin',(Ou c i).foldl Jv ⟨b,(List.range c.Aa.xs.length).map (psT c 0),cs,ch,fin⟩=⟨b,(List.range c.Aa.xs.length).map (psT c i),cs,ch,fin'⟩∧(i=0→fin'=fin)∧(0<i→fin'=16*Et c i)
 | 0,_=>⟨fin,rfl,fun _=>rfl,fun h=>by omega⟩
 | i+1,h=>by
  obtain⟨fin',e, -, -⟩:=foldT c hf b ch fin cs i (by omega)
  have hl:i<((List.range c.Aa.xs.length).map (psT c i)).length:=by simp;omega
  refine⟨16*(Et c i+((Jq (gd c.Aa.xs i):Nat):Int))+16, ?_,fun h=>by omega,fun _ => ?_⟩
  ·rw[Zm,List.foldl_append,e,Nat.add_comm 1 (Jq (gd c.Aa.xs i)),Zcf c hf i b ch fin' _ cs hl (by rw[VB (by omega)];simp[psT])]
   rw[map_set (g:=psT c (i+1)) (by simp[psT]) (fun q hq=>by unfold psT;by_cases e:q<i <;> simp[e,show(q<i+1)=(q<i∨q=i)by apply propext;omega,hq])]
  rw[WJ];omega
theorem fold_all(c:Aj)(hf:Fine c):∃ ch fin,(Dy c).foldl Jv (F0 c)=⟨16*c.Kernel,(List.range c.Aa.xs.length).map (psT c c.Aa.xs.length),(List.range c.Ag.xs.length).map (Xb c c.Ag.xs.length),ch,fin⟩∧(fin+16 - 1) / 16=Et c c.Aa.xs.length:=by
 obtain⟨f1,e1,g1⟩:=foldP c _ (Nat.le_refl _)
 obtain⟨ch,f2,e2,g2⟩:=foldC c (16*c.Kernel) ((List.range c.Aa.xs.length).map (YX c c.Aa.xs.length)) f1 _ (Nat.le_refl _)
 have hpt:(List.range c.Aa.xs.length).map (YX c c.Aa.xs.length)=(List.range c.Aa.xs.length).map (psT c 0):=List.map_congr_left fun p hp=>by simp[YX,psT,List.mem_range.1 hp]
 obtain⟨f3,e3,g3,g4⟩:=foldT c hf (16*c.Kernel) ch f2 ((List.range c.Ag.xs.length).map (Xb c c.Ag.xs.length)) _ (Nat.le_refl _)
 refine⟨ch,f3, ?_, ?_⟩
 ·unfold Dy
  rw[List.foldl_append,List.foldl_append,e1,e2,hpt,e3]
 by_cases h0:c.Aa.xs.length=0
 ·have hc0:c.Ag.xs.length=0:=by
   rcases Nat.eq_zero_or_pos c.Ag.xs.length with h | h
   ·exact h
   exfalso
   have:=(hf.XP h).1
   rw[Sm]at this
   unfold Jh G5 at this
   rw[h0]at this
   simp at this
  have a1:=g1 h0;have a2:=g2 hc0;have a3:=g3 h0
  rw[h0,show Et c 0=(Dl c c.Ag.xs.length+16 - 1) / 16 from rfl,hc0,show Dl c 0=Dp c c.Aa.xs.length from rfl,h0,show Dp c 0=c.Kernel*16+2+24*((0:Nat):Int)from rfl]
  omega
 have a4:=g4 (by omega)
 omega
theorem NG{α β:Type}[Inhabited α][Inhabited β]{f:α→β}{xs:List α}{n:Nat}(h:n<xs.length):gd (xs.map f) n=f (gd xs n):=by rw[F9 (by simpa using h),F9 h];simp
theorem Ti{α β:Type}[Inhabited α]{f:α→β}{xs:List α}{n:Nat}{T:α}(hn:n<xs.length)(h:f T=f (gd xs n)):(xs.set n T).map f=xs.map f:=by
 rw[List.map_set,h,F9 hn,←List.getElem_map (f:=f) (h:=by simpa using hn),List.set_getElem_self]
def Cf(c:Aj)(m:Nat):Fold:=((Dy c).take m).foldl Jv (F0 c)
theorem Kv{c:Aj}{m:Nat}(h:m<(Dy c).length):Cf c (m+1)=Jv (Cf c m) (gd (Dy c) m):=by
 unfold Cf;rw[take_snoc h,List.foldl_append];rfl
def Xp(c:Aj)(y:BR):Prop:=2≤y.AP.Kind∧y.AP.Kind≤9∧0≤y.At∧y.At≤200000∧0≤y.Size∧y.Size≤1000∧0≤y.AP.Index∧y.AP.Index≤1000∧0≤y.AP.Port∧y.AP.Port≤1000 ∧
 ((y.AP.Kind=3∨y.AP.Kind=4∨y.AP.Kind=5∨y.AP.Kind=9)→y.AP.Index<(c.Aa.xs.length:Int))∧((y.AP.Kind=6∨y.AP.Kind=7)→y.AP.Index<(c.Ag.xs.length:Int))∧(y.AP.Kind=8→1≤c.Ag.xs.length)
theorem pc_mem{c:Aj}(hf:Fine c):∀ y∈Dy c,Xp c y:=by
 have hkn:=hf.kn;have hpn:=hf.pn;have hcn:=hf.cn
 intro y hy
 unfold Dy at hy
 rw[List.mem_append,List.mem_append]at hy
 rcases hy with(hy | hy) | hy
 ·unfold GI at hy
  rw[List.mem_append]at hy
  rcases hy with hy | hy
  ·simp only[List.mem_singleton]at hy;subst hy;unfold Xp;simp only;omega
  simp only[List.mem_flatMap,List.mem_range]at hy
  obtain⟨i,hi,hy⟩:=hy
  simp only[Zct,List.mem_cons,List.not_mem_nil,or_false]at hy
  have hp:Dp c i=c.Kernel*16+2+24*(i:Int):=rfl
  rcases hy with rfl | rfl | rfl <;> (unfold Xp;simp only;omega)
 ·simp only[IW,List.mem_flatMap,List.mem_range]at hy
  obtain⟨k,hk,hy⟩:=hy
  have hb:=UT hf k (by omega)
  have hp0:Dp c c.Aa.xs.length=c.Kernel*16+2+24*(c.Aa.xs.length:Int):=rfl
  have hs:=Ot (gd c.Ag.xs k)
  have hp:=U0 (gd c.Ag.xs k)
  have hd:=hf.XP hk
  unfold Vz at hy
  rw[List.mem_append]at hy
  rcases hy with hy | hy
  ·simp only[List.mem_cons,List.not_mem_nil,or_false]at hy
   rcases hy with rfl | rfl <;> (unfold Xp;simp only;omega)
  simp only[Jk,List.mem_map,List.mem_range]at hy
  obtain⟨j,hj,rfl⟩:=hy
  have hdb:=Zcg hf hk (show j≤4 by unfold Kw at hd;omega)
  have he:=Yh (k:=(k:Int)) (b:=false) (fun i hi=>OW (hf.parts i hi)) hpn (gd (CQ c (k:Int) false) j) (by rw[F9 hj];exact List.getElem_mem hj)
  unfold Xp WC;simp only;omega
 simp only[Ou,List.mem_flatMap,List.mem_range]at hy
 obtain⟨p,hp,hy⟩:=hy
 simp only[Js,List.mem_map,List.mem_range]at hy
 obtain⟨u,hu,rfl⟩:=hy
 have ht:=SA hf p (by omega)
 have hn:=UN (gd c.Aa.xs p)
 unfold Xp;simp only;omega
theorem ZbC{c:Aj}(hf:Fine c){m:Nat}(h:m<(Dy c).length):Xp c (gd (Dy c) m):=pc_mem hf _ (by rw[F9 h];exact List.getElem_mem h)
theorem pc_ink{F:Nat→Prop}{W:World}{c:Aj}(hf:Fine c):∀ i,i<(Dy c).length→BR.ok F W (gd (Dy c) i):=fun i hi=>by
 obtain⟨a1,a2,a3,a4,a5,a6,a7,a8,a9,a10, -⟩:=ZbC hf hi
 exact⟨QC a3 (by omega),QC a5 (by omega),⟨QC (by omega) (by omega),QC a7 (by omega),QC a9 (by omega)⟩⟩
theorem st2(F:Fold)(y:BR)(h:y.AP.Kind=2):Jv F y=⟨y.At,F.ps,F.cs,F.ch,y.At+y.Size⟩:=by unfold Jv;rw[if_pos h]
theorem st3(F:Fold)(y:BR)(h:y.AP.Kind=3):Jv F y=⟨F.bar,F.ps.set y.AP.Index.toNat { gd F.ps y.AP.Index.toNat with Lock:=y.At },F.cs,F.ch,y.At+y.Size⟩:=by unfold Jv;rw[if_neg (by omega),if_pos h]
theorem st4(F:Fold)(y:BR)(h:y.AP.Kind=4):Jv F y=⟨F.bar,F.ps.set y.AP.Index.toNat { gd F.ps y.AP.Index.toNat with OV:=y.At },F.cs,F.ch,y.At+y.Size⟩:=by unfold Jv;rw[if_neg (by omega),if_neg (by omega),if_pos h]
theorem st5(F:Fold)(y:BR)(h:y.AP.Kind=5):Jv F y=⟨F.bar,F.ps.set y.AP.Index.toNat { gd F.ps y.AP.Index.toNat with State:=y.At },F.cs,F.ch,y.At+y.Size⟩:=by unfold Jv;rw[if_neg (by omega),if_neg (by omega),if_neg (by omega),if_pos h]
theorem st6(F:Fold)(y:BR)(h:y.AP.Kind=6):Jv F y=⟨F.bar,F.ps,F.cs.set y.AP.Index.toNat { gd F.cs y.AP.Index.toNat with Lock:=y.At },y.AP.Index,y.At+y.Size⟩:=by unfold Jv;rw[if_neg (by omega),if_neg (by omega),if_neg (by omega),if_neg (by omega),if_pos h]
theorem st7(F:Fold)(y:BR)(h:y.AP.Kind=7):Jv F y=⟨F.bar,F.ps,F.cs.set y.AP.Index.toNat { gd F.cs y.AP.Index.toNat with PN:=y.At },F.ch,y.At+y.Size⟩:=by unfold Jv;rw[if_neg (by omega),if_neg (by omega),if_neg (by omega),if_neg (by omega),if_neg (by omega),if_pos h]
theorem st8(F:Fold)(y:BR)(h:y.AP.Kind=8):Jv F y=⟨F.bar,F.ps,F.cs.set F.ch.toNat (dstF (gd F.cs F.ch.toNat) y),F.ch,y.At+y.Size⟩:=by unfold Jv;rw[if_neg (by omega),if_neg (by omega),if_neg (by omega),if_neg (by omega),if_neg (by omega),if_neg (by omega),if_pos h]
theorem st9(F:Fold)(y:BR)(h:y.AP.Kind=9):Jv F y=⟨F.bar,F.ps.set y.AP.Index.toNat (UK (gd F.ps y.AP.Index.toNat) y.At),F.cs,F.ch,y.At+y.Size⟩:=by unfold Jv;rw[if_neg (by omega),if_neg (by omega),if_neg (by omega),if_neg (by omega),if_neg (by omega),if_neg (by omega),if_neg (by omega)]
theorem Zbs{c:Aj}(hf:Fine c):∀ (m:Nat),m≤(Dy c).length→0≤(Cf c m).ch∧((Cf c m).ch<(c.Ag.xs.length:Int)∨(Cf c m).ch=0)
 | 0,_=>⟨Int.le_refl _,.inr rfl⟩
 | m+1,h=>by
  have ih:=Zbs hf m (by omega)
  obtain⟨a1,a2,a3,a4,a5,a6,a7,a8,a9,a10,a11,a12,a13⟩:=ZbC hf (show m<(Dy c).length by omega)
  rw[Kv (by omega)]
  generalize gd (Dy c) m=y at *
  have hk:y.AP.Kind=2∨y.AP.Kind=3∨y.AP.Kind=4∨y.AP.Kind=5∨y.AP.Kind=6∨y.AP.Kind=7∨y.AP.Kind=8∨y.AP.Kind=9:=by omega
  rcases hk with h | h | h | h | h | h | h | h
  ·rw[st2 _ _ h];exact ih
  ·rw[st3 _ _ h];exact ih
  ·rw[st4 _ _ h];exact ih
  ·rw[st5 _ _ h];exact ih
  ·rw[st6 _ _ h];exact⟨a7,.inl (a12 (.inl h))⟩
  ·rw[st7 _ _ h];exact ih
  ·rw[st8 _ _ h];exact ih
  rw[st9 _ _ h];exact ih
theorem Z5{c:Aj}(hf:Fine c):(Cf c (Dy c).length).bar=16*c.Kernel∧(Cf c (Dy c).length).ps=(List.range c.Aa.xs.length).map (psT c c.Aa.xs.length)∧(Cf c (Dy c).length).cs=(List.range c.Ag.xs.length).map (Xb c c.Ag.xs.length)∧((Cf c (Dy c).length).fin+16 - 1) / 16=Et c c.Aa.xs.length:=by
 obtain⟨ch,fin,e,h⟩:=fold_all c hf
 unfold Cf
 rw[List.take_length,e]
 exact⟨rfl,rfl,rfl,h⟩
def PQ(c:Aj)(k:Nat):List AC:=(List.range c.Ag.xs.length).map (fun q=>if q<k then TV c q else⟨0,0,0,0,⟨none,0,[]⟩⟩)
theorem csUp_zero{c:Aj}:PQ c 0=List.replicate c.Ag.xs.length ⟨0,0,0,0,⟨none,0,[]⟩⟩:=by
 unfold PQ;apply List.ext_getElem (by simp);intro i h1 h2;simp
theorem ZcD{c:Aj}{k:Nat}:(PQ c k).length=c.Ag.xs.length:=by simp[PQ]
theorem csUp_at{c:Aj}{k:Nat}(h:k<c.Ag.xs.length):gd (PQ c k) k=⟨0,0,0,0,⟨none,0,[]⟩⟩:=by unfold PQ;rw[VB h];simp
theorem csUp_succ{c:Aj}{k:Nat}:(PQ c k).set k (TV c k)=PQ c (k+1):=by
 unfold PQ
 rw[map_set (g:=fun q=>if q<k+1 then TV c q else⟨0,0,0,0,⟨none,0,[]⟩⟩) (by simp) (fun q hq=>by by_cases e:q<k <;> simp[e,show(q<k+1)=(q<k∨q=k)by apply propext;omega,hq])]
theorem csUp_all{c:Aj}:PQ c c.Ag.xs.length=(F0 c).cs:=List.map_congr_left fun q hq=>by simp[List.mem_range.1 hq]
theorem csUp_nil{c:Aj}{k:Nat}:(PQ c k).map AC.Ed=List.replicate c.Ag.xs.length ⟨none,0,[]⟩:=by
 apply List.ext_getElem (by simp[PQ])
 intro i h1 h2
 simp only[PQ,List.getElem_map,List.getElem_range,List.getElem_replicate]
 split <;> rfl
theorem un_nP{c:Aj}{p:Nat}{x:Aw}{l:List Int}(h:nP x=Hq c p ⟨none,0,l⟩):∃ a cp,x=Hq c p ⟨a,cp,l⟩:=by
 obtain⟨x1,x2,x3,x4,a,cp,xs⟩:=x
 simp only[nP,Hq,Aw.mk.injEq,Sl.mk.injEq,true_and]at h
 obtain⟨rfl,rfl,rfl,rfl,rfl⟩:=h
 exact⟨a,cp,rfl⟩
theorem un_nC{c:Aj}{k:Nat}{x:AC}{l:List BO}(h:nC x=Ku c k ⟨none,0,l⟩):∃ a cp,x=Ku c k ⟨a,cp,l⟩:=by
 obtain⟨x1,x2,x3,x4,a,cp,xs⟩:=x
 simp only[nC,Ku,AC.mk.injEq,Sl.mk.injEq,true_and]at h
 obtain⟨rfl,rfl,rfl,rfl,rfl⟩:=h
 exact⟨a,cp,rfl⟩
theorem lay_of{c:Aj}(hf:Fine c){ps:List Aw}{cs:List AC}{a b:Option Addr}{n k:Nat}(h1:ps.map nP=(Cf c (Dy c).length).ps)(h2:cs.map nC=(Cf c (Dy c).length).cs):Yj c ⟨(Cf c (Dy c).length).bar,⟨a,n,ps⟩,⟨b,k,cs⟩,((Cf c (Dy c).length).fin+16 - 1) / 16⟩:=by
 obtain⟨e1,e2,e3,e4⟩:=Z5 hf
 rw[e2]at h1
 rw[e3]at h2
 have hl1:ps.length=c.Aa.xs.length:=by have:=congrArg List.length h1;simpa using this
 have hl2:cs.length=c.Ag.xs.length:=by have:=congrArg List.length h2;simpa using this
 refine⟨by show(Cf c (Dy c).length).bar=c.Kernel*16;rw[e1];omega,e4,hl1, ?_,hl2, ?_⟩
 ·intro p hp
  refine un_nP (x:=gd ps p) ?_
  rw[←NG (f:=nP) (by omega),h1,VB hp];simp[psT,hp]
 intro k hk
 refine un_nC (x:=gd cs k) ?_
 rw[←NG (f:=nC) (by omega),h2,VB hk];simp[Xb,hk]
theorem SS{α:Type}{p:α→Prop}{xs:List α}{n:Nat}{v:α}(h:∀ x∈xs,p x)(hv:n<xs.length→p v):∀ x∈xs.set n v,p x:=by
 by_cases hn:n<xs.length
 ·intro x hx
  rcases List.mem_or_eq_of_mem_set hx with hx | rfl
  ·exact h x hx
  exact hv hn
 rw[List.set_eq_of_length_le (by omega)];exact h
theorem Q8{α:Type}[Inhabited α]{xs:List α}{n:Nat}(h:n<xs.length):gd xs n∈xs:=by rw[F9 h];exact List.getElem_mem h
theorem Xj{c:Aj}(hf:Fine c):∀ (m:Nat),m≤(Dy c).length→(∀ x∈(Cf c m).ps,x.Tables.xs.length≤m)∧(∀ x∈(Cf c m).cs,x.Ed.xs.length≤m)
 | 0,_=>by
  constructor
  ·intro x hx
   simp only[Cf,List.take_zero,List.foldl_nil,F0,List.mem_map]at hx
   obtain⟨_,_,rfl⟩:=hx;exact Nat.le_refl _
  intro x hx
  simp only[Cf,List.take_zero,List.foldl_nil,F0,List.mem_map]at hx
  obtain⟨_,_,rfl⟩:=hx;exact Nat.le_refl _
 | m+1,h=>by
  obtain⟨i1,i2⟩:=Xj hf m (by omega)
  have j1:∀ x∈(Cf c m).ps,x.Tables.xs.length≤m+1:=fun x hx=>Nat.le_succ_of_le (i1 x hx)
  have j2:∀ x∈(Cf c m).cs,x.Ed.xs.length≤m+1:=fun x hx=>Nat.le_succ_of_le (i2 x hx)
  obtain⟨a1,a2, -⟩:=ZbC hf (show m<(Dy c).length by omega)
  rw[Kv (by omega)]
  generalize gd (Dy c) m=y at *
  have hk:y.AP.Kind=2∨y.AP.Kind=3∨y.AP.Kind=4∨y.AP.Kind=5∨y.AP.Kind=6∨y.AP.Kind=7∨y.AP.Kind=8∨y.AP.Kind=9:=by omega
  rcases hk with h | h | h | h | h | h | h | h
  ·rw[st2 _ _ h];exact⟨j1,j2⟩
  ·rw[st3 _ _ h];exact⟨SS j1 (fun hn=>show(gd (Cf c m).ps y.AP.Index.toNat).Tables.xs.length≤m+1 from j1 _ (Q8 hn)),j2⟩
  ·rw[st4 _ _ h];exact⟨SS j1 (fun hn=>show(gd (Cf c m).ps y.AP.Index.toNat).Tables.xs.length≤m+1 from j1 _ (Q8 hn)),j2⟩
  ·rw[st5 _ _ h];exact⟨SS j1 (fun hn=>show(gd (Cf c m).ps y.AP.Index.toNat).Tables.xs.length≤m+1 from j1 _ (Q8 hn)),j2⟩
  ·rw[st6 _ _ h];exact⟨j1,SS j2 (fun hn=>show(gd (Cf c m).cs y.AP.Index.toNat).Ed.xs.length≤m+1 from j2 _ (Q8 hn))⟩
  ·rw[st7 _ _ h];exact⟨j1,SS j2 (fun hn=>show(gd (Cf c m).cs y.AP.Index.toNat).Ed.xs.length≤m+1 from j2 _ (Q8 hn))⟩
  ·rw[st8 _ _ h]
   refine⟨j1,SS j2 (fun hn => ?_)⟩
   have:=i2 _ (Q8 hn)
   simp only[dstF,List.length_append,List.length_singleton];omega
  rw[st9 _ _ h]
  refine⟨SS j1 (fun hn => ?_),j2⟩
  have:=i1 _ (Q8 hn)
  unfold UK
  split
  ·exact Nat.le_succ_of_le this
  simp only[List.length_append,List.length_singleton];omega
theorem tabF_pos{p:Aw}{a:Int}(h:p.Root=0):UK p a={ p with Root:=a / 16 }:=by unfold UK;rw[if_pos h]
theorem tabF_neg{p:Aw}{a:Int}(h:¬ p.Root=0):UK p a={ p with Tables:=⟨none,0,p.Tables.xs++[a / 16]⟩ }:=by unfold UK;rw[if_neg h]
theorem rof_no(w:World)(c:Aj)(hc:Aj.ok Any w c)(hok:EK c=false):Calls Tryd.prog 64 #[.agg (Aj.arr c)] w fun e w'=>e = .returned (.tuple #[.agg #[.int .i64 0,.slice none 0 0,.slice none 0 0,.int .i64 0],.int .i64 150])∧CP (fun _=>False) w w':=by
 obtain⟨z,hz⟩:∃ z,z=w.heap.size:=⟨_,rfl⟩
 refine CE (args:=[.agg (Aj.arr c)]) 190 ⟨w,z,[(Ak w)]⟩ Tryd.func64 rfl (by kernel_rfl) (by kernel_rfl) (Ep hz) ?_
 refine DC [0] [(0,.agg (Aj.arr c))] ?_
 refine q_c 7 1 [] [[o0,o0,o0],[(an 7 1)]] [Qb z,Qb z,Qb z,Qb z,Qb z,Qb z,Qb z] [(1,pt z),(2,pt (z+1)),(14,.agg (Aj.arr c))] ⟨w,z+2,[(Ak w),(bk z (Aj.arr c) 26),(bk (z+1) #[i6 0,.slice none 0 0,.slice none 0 0,i6 0] 79)]⟩ rfl ⟨rfl,rfl,rfl,rfl,rfl,rfl,rfl,Ae⟩ ?_
 refine Bf 76 #[.agg (Aj.arr c)] (some 15) (.bool false) (fun w1 hw1=>rmay_no w1 c (hc.ext (hw1.ext rfl) (fun _ h=>h)) hok) (fun n2 (hn3:z+2≤n2) => ?_)
 refine BP 8 0 [1] [[o0],[o0,(an 4 2),o0]] [Qb (z+1),Qb (z+1),Qb (z+1),Qb (z+1)] [(2,pt (z+1)),(3,i6 150)] rfl ⟨rfl,rfl,rfl,rfl,Ae⟩ ?_
 refine AA [.at 2,.at 2,.at 2,.at 2] [Qb (z+1),Qb (z+1),Qb (z+1),Qb (z+1)] (.tuple #[.agg #[i6 0,.slice none 0 0,.slice none 0 0,i6 0],i6 150]) ⟨rfl,rfl,rfl,rfl,Ae⟩ ?_
 intro w4 hw4
 exact⟨rfl,AO hw4⟩
section
variable (b7:Nat)(c:Aj)(mm b5:Nat)(b6 n14:Nat)(n2 n20 n24:Nat)(y49:BR)(n8 n16:Nat)(n10 n40 z:Nat)(csG:List AC)(y62:AC)(ax63:Option Addr)(cp64:Nat)(psG:List Aw)(y68:Aw)(ax70:Option Addr)(cp71 b42:Nat)(o43 cp38:Nat)(ax37:Option Addr)(w:World)(k:Nat)
abbrev FP:=bk b7 #[i6 ((Cf c mm).bar),.slice (some ⟨b5,0,none⟩) c.Aa.xs.length c.Aa.xs.length,.slice (some ⟨b6,0,none⟩) c.Ag.xs.length c.Ag.xs.length,i6 0] 79
abbrev Zc4:=bk n14 #[i6 0,.slice (some ⟨n14+1,0,none⟩) c.Aa.xs.length c.Aa.xs.length,.slice (some ⟨n2,0,none⟩) c.Ag.xs.length c.Ag.xs.length,i6 0] 79
abbrev ZcH:=bk n2 #[i6 0,.slice (some ⟨n2+1,0,none⟩) c.Aa.xs.length c.Aa.xs.length,.slice (some ⟨n20,0,none⟩) c.Ag.xs.length c.Ag.xs.length,i6 0] 79
abbrev ZbG:=bk n2 #[i6 0,.slice (some ⟨n24,0,none⟩) c.Aa.xs.length c.Aa.xs.length,.slice (some ⟨n2+1,0,none⟩) c.Ag.xs.length c.Ag.xs.length,i6 0] 79
abbrev VG:=bk b7 #[i6 y49.At,.slice (some ⟨b5,0,none⟩) c.Aa.xs.length c.Aa.xs.length,.slice (some ⟨b6,0,none⟩) c.Ag.xs.length c.Ag.xs.length,i6 0] 79
abbrev Zc9:=bk n8 #[i6 0,.slice (some ⟨n2,0,none⟩) c.Aa.xs.length c.Aa.xs.length,.slice (some ⟨n8+1,0,none⟩) c.Ag.xs.length c.Ag.xs.length,i6 0] 79
abbrev Zcc:=bk n16 #[i6 0,.slice (some ⟨n14,0,none⟩) c.Aa.xs.length c.Aa.xs.length,.slice (some ⟨n2,0,none⟩) c.Ag.xs.length c.Ag.xs.length,i6 0] 79
abbrev qo29_7:=bk n10 #[i6 0,.slice (some ⟨n2,0,none⟩) c.Aa.xs.length c.Aa.xs.length,.slice (some ⟨n8,0,none⟩) c.Ag.xs.length c.Ag.xs.length,i6 0] 79
abbrev Jt:=bk b7 #[i6 0,.slice (some ⟨b5,0,none⟩) c.Aa.xs.length c.Aa.xs.length,.slice (some ⟨b6,0,none⟩) c.Ag.xs.length c.Ag.xs.length,i6 0] 79
abbrev XC:=bk (n40+1) #[i6 y49.AP.Index,i6 y49.AP.Port,i6 y49.At] 106
abbrev D9:=bk (z+1) #[i6 0,.slice none 0 0,.slice none 0 0,i6 0] 79
abbrev JF:=bk n40 (BR.arr y49) 120
abbrev Dz:=bk z (Aj.arr c) 26
abbrev VH:=BJ z 104 5 AC.cells (.slice (some ⟨b6,0,none⟩) c.Ag.xs.length c.Ag.xs.length) (csG.set (((Cf c mm).ch).toNat) (⟨y62.Lock,y62.PN,y62.Partition,y62.Port,(⟨ax63,cp64,(y62.Ed.xs++[(⟨y49.AP.Index,y49.AP.Port,y49.At⟩:BO)])⟩:Sl BO)⟩:AC))
abbrev V8:=BJ z 95 5 Aw.cells (.slice (some ⟨b5,0,none⟩) c.Aa.xs.length c.Aa.xs.length) (psG.set ((y49.AP.Index).toNat) (⟨y68.Lock,y68.OV,y68.State,y68.Root,(⟨ax70,cp71,(y68.Tables.xs++[y49.At / 16])⟩:Sl Int)⟩:Aw))
abbrev Zah:=BJ z 95 5 Aw.cells (.slice (some ⟨n14+1,0,none⟩) c.Aa.xs.length c.Aa.xs.length) (List.replicate c.Aa.xs.length (⟨0,0,0,0,(⟨none,0,[]⟩:Sl Int)⟩:Aw))
abbrev Zai:=BJ z 95 5 Aw.cells (.slice (some ⟨n2+1,0,none⟩) c.Aa.xs.length c.Aa.xs.length) (List.replicate c.Aa.xs.length (⟨0,0,0,0,(⟨none,0,[]⟩:Sl Int)⟩:Aw))
abbrev Zbb:=BJ z 104 5 AC.cells (.slice (some ⟨n8+1,0,none⟩) c.Ag.xs.length c.Ag.xs.length) (List.replicate c.Ag.xs.length (⟨0,0,0,0,(⟨none,0,[]⟩:Sl BO)⟩:AC))
abbrev Zap:=BJ z 104 5 AC.cells (.slice (some ⟨n2+1,0,none⟩) c.Ag.xs.length c.Ag.xs.length) (List.replicate c.Ag.xs.length (⟨0,0,0,0,(⟨none,0,[]⟩:Sl BO)⟩:AC))
abbrev Yw:=BJ z 95 5 Aw.cells (.slice (some ⟨n14,0,none⟩) c.Aa.xs.length c.Aa.xs.length) (List.replicate c.Aa.xs.length (⟨0,0,0,0,(⟨none,0,[]⟩:Sl Int)⟩:Aw))
abbrev ZaU:=BJ z 95 5 Aw.cells (.slice (some ⟨n24,0,none⟩) c.Aa.xs.length c.Aa.xs.length) (List.replicate c.Aa.xs.length (⟨0,0,0,0,(⟨none,0,[]⟩:Sl Int)⟩:Aw))
abbrev Uc:=BJ z 95 5 Aw.cells (.slice (some ⟨n2,0,none⟩) c.Aa.xs.length c.Aa.xs.length) (List.replicate c.Aa.xs.length (⟨0,0,0,0,(⟨none,0,[]⟩:Sl Int)⟩:Aw))
abbrev I9:=BJ z 95 5 Aw.cells (.slice (some ⟨b5,0,none⟩) c.Aa.xs.length c.Aa.xs.length) (List.replicate c.Aa.xs.length (⟨0,0,0,0,(⟨none,0,[]⟩:Sl Int)⟩:Aw))
abbrev ZaJ:=BJ z 104 5 AC.cells (.slice (some ⟨n20,0,none⟩) c.Ag.xs.length c.Ag.xs.length) (List.replicate c.Ag.xs.length (⟨0,0,0,0,(⟨none,0,[]⟩:Sl BO)⟩:AC))
abbrev Zdz:=BJ z 104 5 AC.cells (.slice (some ⟨n8,0,none⟩) c.Ag.xs.length c.Ag.xs.length) (List.replicate c.Ag.xs.length (⟨0,0,0,0,(⟨none,0,[]⟩:Sl BO)⟩:AC))
abbrev Rz:=BJ z 104 5 AC.cells (.slice (some ⟨n2,0,none⟩) c.Ag.xs.length c.Ag.xs.length) (List.replicate c.Ag.xs.length (⟨0,0,0,0,(⟨none,0,[]⟩:Sl BO)⟩:AC))
abbrev VS:=Be z 3 1 (fun x:Int=>[i6 x]) ((psG.map Aw.Tables).eraseIdx ((y49.AP.Index).toNat))
abbrev Fz:=BJ z 95 5 Aw.cells (.slice (some ⟨b5,0,none⟩) c.Aa.xs.length c.Aa.xs.length) psG
abbrev Fq:=BJ z 104 5 AC.cells (.slice (some ⟨b6,0,none⟩) c.Ag.xs.length c.Ag.xs.length) csG
abbrev Ws:=Be z 106 3 BO.cells ((csG.map AC.Ed).eraseIdx (((Cf c mm).ch).toNat))
abbrev FC:=Be z 3 1 (fun x:Int=>[i6 x]) (psG.map Aw.Tables)
abbrev FB:=Be z 106 3 BO.cells (csG.map AC.Ed)
abbrev Zdt:DJ:=(26,.agg #[i6 0,.slice (some ⟨n14,0,none⟩) c.Aa.xs.length c.Aa.xs.length,.slice (some ⟨n2,0,none⟩) c.Ag.xs.length c.Ag.xs.length,i6 0])
abbrev qo29_33:DJ:=(26,.agg #[i6 0,.slice (some ⟨n2,0,none⟩) c.Aa.xs.length c.Aa.xs.length,.slice (some ⟨n8,0,none⟩) c.Ag.xs.length c.Ag.xs.length,i6 0])
abbrev VW:DJ:=(168,.slice (some ⟨b5,0,none⟩) c.Aa.xs.length c.Aa.xs.length)
abbrev Y5:DJ:=(21,.slice (some ⟨n2,0,none⟩) c.Aa.xs.length c.Aa.xs.length)
abbrev VL:DJ:=(131,.slice (some ⟨b6,0,none⟩) c.Ag.xs.length c.Ag.xs.length)
abbrev Yo:DJ:=(25,.slice (some ⟨n2,0,none⟩) c.Ag.xs.length c.Ag.xs.length)
abbrev Ej:DJ:=(9,.slice (some ⟨b42,o43,none⟩) ((Dy c).length) cp38)
abbrev Un:=(20,Ac c.Aa.xs.length)
abbrev U2:=(24,Ac c.Ag.xs.length)
abbrev Hl:=(29,Ac c.Ag.xs.length)
abbrev D8:=(58,i6 (((Dy c).length:Nat):Int))
abbrev Gu:DJ:=(9,.slice ax37 ((Dy c).length) cp38)
abbrev FH:=(59,i6 ((mm+1:Nat):Int))
abbrev BI:=(2,pt (z+1))
abbrev Ik:=(12,pt n40)
abbrev DY:=(10,i6 (y49.At+y49.Size))
abbrev O3:=(4,pt n2)
abbrev CY:=(4,pt b7)
abbrev I8:=[(Ak w),(Dz c z),(D9 z),(I9 c b5 z),(BJ z 104 5 AC.cells (.slice (some ⟨b6,0,none⟩) c.Ag.xs.length c.Ag.xs.length) (PQ c k)),(Jt b7 c b5 b6)]
abbrev Zao:=[(Ak w),(Dz c z),(D9 z),(Uc c n2 z),(Zdz c n8 z),(qo29_7 c n2 n8 n10)]
end
theorem rof_yes(w:World)(c:Aj)(hc:Aj.ok Any w c)(hok:EK c=true):Calls Tryd.prog 64 #[.agg (Aj.arr c)] w fun e w'=>∃ L:IA,e = .returned (.tuple #[.agg (IA.arr L),.int .i64 0])∧Yj c L∧IA.ok (New w.heap.size) w' L∧Xw w.heap.size w' L∧CP (fun _=>False) w w':=by
 obtain⟨z,hz⟩:∃ z,z=w.heap.size:=⟨_,rfl⟩
 refine CE (args:=[.agg (Aj.arr c)]) 190 ⟨w,z,[(Ak w)]⟩ Tryd.func64 rfl (by kernel_rfl) (by kernel_rfl) (Ep hz) ?_
 have hfine:=Wp hok;have hkn:=hfine.kn;have hpn:=hfine.pn;have hcn:=hfine.cn
 refine DC [0] [(0,.agg (Aj.arr c))] ?_
 refine q_c 7 1 [] [[o0,o0,o0],[(an 7 1)]] [Qb z,Qb z,Qb z,Qb z,Qb z,Qb z,Qb z] [(1,pt z),(BI z),(14,.agg (Aj.arr c))] ⟨w,z+2,[(Ak w),(Dz c z),(D9 z)]⟩ rfl ⟨rfl,rfl,rfl,rfl,rfl,rfl,rfl,Ae⟩ ?_
 refine Bf 76 #[.agg (Aj.arr c)] (some 15) (.bool true) (fun w1 hw1=>rmay_yes w1 c (hc.ext (hw1.ext rfl) (fun _ h=>h)) hok) (fun n2 (hn3:z+2≤n2) => ?_)
 refine BP 6 0 [0] [[o0]] [] [(1,pt z),(BI z),(16,.bool false)] rfl Ae ?_
 refine Eh 10 [0,1,2] [(Ak w),(Dz c z),(D9 z)] rfl rfl ?_
 refine Dj [(0,o0),(1,(a1 1)),(2,o0),(4,o0),(5,(a1 1)),(6,o0)] [1,2,20,24] [Qb z,Qb z] [true,true,true,false,true,true,true,false,false,false,false] [(1,pt z),(BI z),(Un c),(U2 c)] ⟨rfl,rfl,Ae⟩ ?_
 refine Qx (fun x:{p:Nat×Nat×Nat×Nat // n2≤p.1∧n2≤p.2.1∧n2≤p.2.2.1∧n2≤p.2.2.2}=>([(1,pt z),(BI z),(4,pt x.1.2.2.2)],⟨w,x.1.1,[(Ak w),(Dz c z),(D9 z),(BJ z 95 5 Aw.cells (.slice (some ⟨x.1.2.1,0,none⟩) c.Aa.xs.length c.Aa.xs.length) (List.replicate c.Aa.xs.length (⟨0,0,0,0,(⟨none,0,[]⟩:Sl Int)⟩:Aw))),(BJ z 104 5 AC.cells (.slice (some ⟨x.1.2.2.1,0,none⟩) c.Ag.xs.length c.Ag.xs.length) (List.replicate c.Ag.xs.length (⟨0,0,0,0,(⟨none,0,[]⟩:Sl BO)⟩:AC))),(.blk x.1.2.2.2 (.cells #[i6 0,.slice (some ⟨x.1.2.1,0,none⟩) c.Aa.xs.length c.Aa.xs.length,.slice (some ⟨x.1.2.2.1,0,none⟩) c.Ag.xs.length c.Ag.xs.length,i6 0] 79 (0,0)) true)]⟩)) (fun hK => ?_) ?_
 ·refine JC [3,7,9] ?_
  refine List.forall_mem_cons.2 ⟨?_,List.forall_mem_cons.2 ⟨?_,List.forall_mem_cons.2 ⟨?_,fun _ h=>absurd h List.not_mem_nil⟩⟩⟩
  ·refine PD z c.Aa.xs.length (⟨0,0,0,0,(⟨none,0,[]⟩:Sl Int)⟩:Aw) Aw.cells 95 5 56 (.agg #[i6 0,i6 0,i6 0,i6 0,.slice none 0 0]) (c.Aa.xs.length:Int) (c.Aa.xs.length:Int) (some 21) [0,1,2] rfl rfl (by omega) (show z≤n2 by omega) (.inr rfl) (fun n8 (hn9:n2+1≤n8) => ?_)
   refine DU [1,2,24,21] [(1,pt z),(BI z),(U2 c),(Y5 c n2)] ?_
   refine JC [7,9] ?_
   refine List.forall_mem_cons.2 ⟨?_,List.forall_mem_cons.2 ⟨?_,fun _ h=>absurd h List.not_mem_nil⟩⟩
   ·refine PD z c.Ag.xs.length (⟨0,0,0,0,(⟨none,0,[]⟩:Sl BO)⟩:AC) AC.cells 104 5 56 (.agg #[i6 0,i6 0,i6 0,i6 0,.slice none 0 0]) (c.Ag.xs.length:Int) (c.Ag.xs.length:Int) (some 25) [0,1,2] rfl rfl (by omega) (show z≤n8 by omega) (.inr rfl) (fun n10 (hn11:n8+1≤n10) => ?_)
    refine DU [1,2,21,25] [(1,pt z),(BI z),(Y5 c n2),(25,.slice (some ⟨n8,0,none⟩) c.Ag.xs.length c.Ag.xs.length)] ?_
    refine Dj [(8,o0)] [1,2,26] [] (DF 9 2) [(1,pt z),(BI z),(qo29_33 c n2 n8)] Ae ?_
    refine BC 9 ?_
    refine BH o0 [1,2,26,4] [] [(1,pt z),(BI z),(qo29_33 c n2 n8),(4,pt n10)] ⟨w,n10+1,[(Ak w),(Dz c z),(D9 z),(Uc c n2 z),(Zdz c n8 z),(bk n10 #[i6 0,.slice none 0 0,.slice none 0 0,i6 0] 79)]⟩ [0,1,2] Ae (.inr rfl) ?_
    refine BC 10 ?_
    refine BH (an 4 5) [1,2,4] [Qb n10,Qb n10,Qb n10,Qb n10] [(1,pt z),(BI z),(4,pt n10)] ⟨w,n10+1,(Zao c n2 n8 n10 z w)⟩ [] ⟨rfl,rfl,rfl,rfl,Ae⟩ (.inl rfl) ?_
    refine Es 11 [0,1,2,3,4,5] (Zao c n2 n8 n10 z w) rfl rfl ?_
    refine CU ?_
    refine BK [1,2,4] [(1,pt z),(BI z),(4,pt n10)] ?_
    refine Cb [0,1,2,3,4,5] (Zao c n2 n8 n10 z w) rfl rfl ?_
    exact hK ⟨(n10+1,n2,n8,n10),by first | omega | (dsimp only;omega)⟩
   refine BH o0 [1,2,24,21,4] [] [(1,pt z),(BI z),(U2 c),(Y5 c n2),(4,pt n8)] ⟨w,n8+1,[(Ak w),(Dz c z),(D9 z),(Uc c n2 z),(bk n8 #[i6 0,.slice none 0 0,.slice none 0 0,i6 0] 79)]⟩ [0,1,2] Ae (.inr rfl) ?_
   refine BC 7 ?_
   refine PD z c.Ag.xs.length (⟨0,0,0,0,(⟨none,0,[]⟩:Sl BO)⟩:AC) AC.cells 104 5 56 (.agg #[i6 0,i6 0,i6 0,i6 0,.slice none 0 0]) (c.Ag.xs.length:Int) (c.Ag.xs.length:Int) (some 25) [0,1,2] rfl rfl (by omega) (show z≤n8+1 by omega) (.inr rfl) (fun n12 (hn13:n8+1+1≤n12) => ?_)
   refine DU [1,2,21,4,25] [(1,pt z),(BI z),(Y5 c n2),(4,pt n8),(25,.slice (some ⟨n8+1,0,none⟩) c.Ag.xs.length c.Ag.xs.length)] ?_
   refine Dj [(8,o0)] [1,2,4,26] [] (DF 10 1) [(1,pt z),(BI z),(4,pt n8),(26,.agg #[i6 0,.slice (some ⟨n2,0,none⟩) c.Aa.xs.length c.Aa.xs.length,.slice (some ⟨n8+1,0,none⟩) c.Ag.xs.length c.Ag.xs.length,i6 0])] Ae ?_
   refine BC 10 ?_
   refine BH (an 4 4) [1,2,4] [Qb n8,Qb n8,Qb n8,Qb n8] [(1,pt z),(BI z),(4,pt n8)] ⟨w,n12,[(Ak w),(Dz c z),(D9 z),(Uc c n2 z),(Zc9 c n2 n8),(Zbb c n8 z)]⟩ [] ⟨rfl,rfl,rfl,rfl,Ae⟩ (.inl rfl) ?_
   refine Es 11 [0,1,2,3,4,5] [(Ak w),(Dz c z),(D9 z),(Uc c n2 z),(Zc9 c n2 n8),(Zbb c n8 z)] rfl rfl ?_
   refine CU ?_
   refine BK [1,2,4] [(1,pt z),(BI z),(4,pt n8)] ?_
   refine Cb [0,1,2,3,5,4] [(Ak w),(Dz c z),(D9 z),(Uc c n2 z),(Zbb c n8 z),(Zc9 c n2 n8)] rfl rfl ?_
   exact hK ⟨(n12,n2,n8+1,n8),by first | omega | (dsimp only;omega)⟩
  ·refine PD z c.Ag.xs.length (⟨0,0,0,0,(⟨none,0,[]⟩:Sl BO)⟩:AC) AC.cells 104 5 56 (.agg #[i6 0,i6 0,i6 0,i6 0,.slice none 0 0]) (c.Ag.xs.length:Int) (c.Ag.xs.length:Int) (some 25) [0,1,2] rfl rfl (by omega) (show z≤n2 by omega) (.inr rfl) (fun n14 (hn15:n2+1≤n14) => ?_)
   refine DU [1,2,20,25] [(1,pt z),(BI z),(Un c),(Yo c n2)] ?_
   refine JC [3,9] ?_
   refine List.forall_mem_cons.2 ⟨?_,List.forall_mem_cons.2 ⟨?_,fun _ h=>absurd h List.not_mem_nil⟩⟩
   ·refine PD z c.Aa.xs.length (⟨0,0,0,0,(⟨none,0,[]⟩:Sl Int)⟩:Aw) Aw.cells 95 5 56 (.agg #[i6 0,i6 0,i6 0,i6 0,.slice none 0 0]) (c.Aa.xs.length:Int) (c.Aa.xs.length:Int) (some 21) [0,1,2] rfl rfl (by omega) (show z≤n14 by omega) (.inr rfl) (fun n16 (hn17:n14+1≤n16) => ?_)
    refine DU [1,2,25,21] [(1,pt z),(BI z),(Yo c n2),(21,.slice (some ⟨n14,0,none⟩) c.Aa.xs.length c.Aa.xs.length)] ?_
    refine Dj [(8,o0)] [1,2,26] [] (DF 9 2) [(1,pt z),(BI z),(Zdt c n14 n2)] Ae ?_
    refine BC 9 ?_
    refine BH o0 [1,2,26,4] [] [(1,pt z),(BI z),(Zdt c n14 n2),(4,pt n16)] ⟨w,n16+1,[(Ak w),(Dz c z),(D9 z),(Rz c n2 z),(Yw c n14 z),(bk n16 #[i6 0,.slice none 0 0,.slice none 0 0,i6 0] 79)]⟩ [0,1,2] Ae (.inr rfl) ?_
    refine BC 10 ?_
    refine BH (an 4 5) [1,2,4] [Qb n16,Qb n16,Qb n16,Qb n16] [(1,pt z),(BI z),(4,pt n16)] ⟨w,n16+1,[(Ak w),(Dz c z),(D9 z),(Rz c n2 z),(Yw c n14 z),(Zcc c n14 n2 n16)]⟩ [] ⟨rfl,rfl,rfl,rfl,Ae⟩ (.inl rfl) ?_
    refine Es 11 [0,1,2,3,4,5] [(Ak w),(Dz c z),(D9 z),(Rz c n2 z),(Yw c n14 z),(Zcc c n14 n2 n16)] rfl rfl ?_
    refine CU ?_
    refine BK [1,2,4] [(1,pt z),(BI z),(4,pt n16)] ?_
    refine Cb [0,1,2,4,3,5] [(Ak w),(Dz c z),(D9 z),(Yw c n14 z),(Rz c n2 z),(Zcc c n14 n2 n16)] rfl rfl ?_
    exact hK ⟨(n16+1,n14,n2,n16),by first | omega | (dsimp only;omega)⟩
   refine BH o0 [1,2,20,25,4] [] [(1,pt z),(BI z),(Un c),(Yo c n2),(4,pt n14)] ⟨w,n14+1,[(Ak w),(Dz c z),(D9 z),(Rz c n2 z),(bk n14 #[i6 0,.slice none 0 0,.slice none 0 0,i6 0] 79)]⟩ [0,1,2] Ae (.inr rfl) ?_
   refine BC 3 ?_
   refine PD z c.Aa.xs.length (⟨0,0,0,0,(⟨none,0,[]⟩:Sl Int)⟩:Aw) Aw.cells 95 5 56 (.agg #[i6 0,i6 0,i6 0,i6 0,.slice none 0 0]) (c.Aa.xs.length:Int) (c.Aa.xs.length:Int) (some 21) [0,1,2] rfl rfl (by omega) (show z≤n14+1 by omega) (.inr rfl) (fun n18 (hn19:n14+1+1≤n18) => ?_)
   refine DU [1,2,25,4,21] [(1,pt z),(BI z),(Yo c n2),(4,pt n14),(21,.slice (some ⟨n14+1,0,none⟩) c.Aa.xs.length c.Aa.xs.length)] ?_
   refine Dj [(8,o0)] [1,2,4,26] [] (DF 10 1) [(1,pt z),(BI z),(4,pt n14),(26,.agg #[i6 0,.slice (some ⟨n14+1,0,none⟩) c.Aa.xs.length c.Aa.xs.length,.slice (some ⟨n2,0,none⟩) c.Ag.xs.length c.Ag.xs.length,i6 0])] Ae ?_
   refine BC 10 ?_
   refine BH (an 4 4) [1,2,4] [Qb n14,Qb n14,Qb n14,Qb n14] [(1,pt z),(BI z),(4,pt n14)] ⟨w,n18,[(Ak w),(Dz c z),(D9 z),(Rz c n2 z),(Zc4 c n14 n2),(Zah c n14 z)]⟩ [] ⟨rfl,rfl,rfl,rfl,Ae⟩ (.inl rfl) ?_
   refine Es 11 [0,1,2,3,4,5] [(Ak w),(Dz c z),(D9 z),(Rz c n2 z),(Zc4 c n14 n2),(Zah c n14 z)] rfl rfl ?_
   refine CU ?_
   refine BK [1,2,4] [(1,pt z),(BI z),(4,pt n14)] ?_
   refine Cb [0,1,2,5,3,4] [(Ak w),(Dz c z),(D9 z),(Zah c n14 z),(Rz c n2 z),(Zc4 c n14 n2)] rfl rfl ?_
   exact hK ⟨(n18,n14+1,n2,n14),by first | omega | (dsimp only;omega)⟩
  refine BH o0 [1,2,20,24,4] [] [(1,pt z),(BI z),(Un c),(U2 c),(O3 n2)] ⟨w,n2+1,[(Ak w),(Dz c z),(D9 z),(bk n2 #[i6 0,.slice none 0 0,.slice none 0 0,i6 0] 79)]⟩ [0,1,2] Ae (.inr rfl) ?_
  refine JC [3,7] ?_
  refine List.forall_mem_cons.2 ⟨?_,List.forall_mem_cons.2 ⟨?_,fun _ h=>absurd h List.not_mem_nil⟩⟩
  ·refine PD z c.Aa.xs.length (⟨0,0,0,0,(⟨none,0,[]⟩:Sl Int)⟩:Aw) Aw.cells 95 5 56 (.agg #[i6 0,i6 0,i6 0,i6 0,.slice none 0 0]) (c.Aa.xs.length:Int) (c.Aa.xs.length:Int) (some 21) [0,1,2] rfl rfl (by omega) (show z≤n2+1 by omega) (.inr rfl) (fun n20 (hn21:n2+1+1≤n20) => ?_)
   refine DU [1,2,24,4,21] [(1,pt z),(BI z),(U2 c),(O3 n2),(21,.slice (some ⟨n2+1,0,none⟩) c.Aa.xs.length c.Aa.xs.length)] ?_
   refine BC 7 ?_
   refine PD z c.Ag.xs.length (⟨0,0,0,0,(⟨none,0,[]⟩:Sl BO)⟩:AC) AC.cells 104 5 56 (.agg #[i6 0,i6 0,i6 0,i6 0,.slice none 0 0]) (c.Ag.xs.length:Int) (c.Ag.xs.length:Int) (some 25) [0,1,2] rfl rfl (by omega) (show z≤n20 by omega) (.inr rfl) (fun n22 (hn23:n20+1≤n22) => ?_)
   refine DU [1,2,4,21,25] [(1,pt z),(BI z),(O3 n2),(21,.slice (some ⟨n2+1,0,none⟩) c.Aa.xs.length c.Aa.xs.length),(25,.slice (some ⟨n20,0,none⟩) c.Ag.xs.length c.Ag.xs.length)] ?_
   refine Dj [(8,o0)] [1,2,4,26] [] (DF 10 1) [(1,pt z),(BI z),(O3 n2),(26,.agg #[i6 0,.slice (some ⟨n2+1,0,none⟩) c.Aa.xs.length c.Aa.xs.length,.slice (some ⟨n20,0,none⟩) c.Ag.xs.length c.Ag.xs.length,i6 0])] Ae ?_
   refine BC 10 ?_
   refine BH (an 4 3) [1,2,4] [Qb n2,Qb n2,Qb n2,Qb n2] [(1,pt z),(BI z),(O3 n2)] ⟨w,n22,[(Ak w),(Dz c z),(D9 z),(ZcH c n2 n20),(Zai c n2 z),(ZaJ c n20 z)]⟩ [] ⟨rfl,rfl,rfl,rfl,Ae⟩ (.inl rfl) ?_
   refine Es 11 [0,1,2,3,4,5] [(Ak w),(Dz c z),(D9 z),(ZcH c n2 n20),(Zai c n2 z),(ZaJ c n20 z)] rfl rfl ?_
   refine CU ?_
   refine BK [1,2,4] [(1,pt z),(BI z),(O3 n2)] ?_
   refine Cb [0,1,2,4,5,3] [(Ak w),(Dz c z),(D9 z),(Zai c n2 z),(ZaJ c n20 z),(ZcH c n2 n20)] rfl rfl ?_
   exact hK ⟨(n22,n2+1,n20,n2),by first | omega | (dsimp only;omega)⟩
  refine PD z c.Ag.xs.length (⟨0,0,0,0,(⟨none,0,[]⟩:Sl BO)⟩:AC) AC.cells 104 5 56 (.agg #[i6 0,i6 0,i6 0,i6 0,.slice none 0 0]) (c.Ag.xs.length:Int) (c.Ag.xs.length:Int) (some 25) [0,1,2] rfl rfl (by omega) (show z≤n2+1 by omega) (.inr rfl) (fun n24 (hn25:n2+1+1≤n24) => ?_)
  refine DU [1,2,20,4,25] [(1,pt z),(BI z),(Un c),(O3 n2),(25,.slice (some ⟨n2+1,0,none⟩) c.Ag.xs.length c.Ag.xs.length)] ?_
  refine BC 3 ?_
  refine PD z c.Aa.xs.length (⟨0,0,0,0,(⟨none,0,[]⟩:Sl Int)⟩:Aw) Aw.cells 95 5 56 (.agg #[i6 0,i6 0,i6 0,i6 0,.slice none 0 0]) (c.Aa.xs.length:Int) (c.Aa.xs.length:Int) (some 21) [0,1,2] rfl rfl (by omega) (show z≤n24 by omega) (.inr rfl) (fun n26 (hn27:n24+1≤n26) => ?_)
  refine DU [1,2,4,25,21] [(1,pt z),(BI z),(O3 n2),(25,.slice (some ⟨n2+1,0,none⟩) c.Ag.xs.length c.Ag.xs.length),(21,.slice (some ⟨n24,0,none⟩) c.Aa.xs.length c.Aa.xs.length)] ?_
  refine Dj [(8,o0)] [1,2,4,26] [] (DF 10 1) [(1,pt z),(BI z),(O3 n2),(26,.agg #[i6 0,.slice (some ⟨n24,0,none⟩) c.Aa.xs.length c.Aa.xs.length,.slice (some ⟨n2+1,0,none⟩) c.Ag.xs.length c.Ag.xs.length,i6 0])] Ae ?_
  refine BC 10 ?_
  refine BH (an 4 3) [1,2,4] [Qb n2,Qb n2,Qb n2,Qb n2] [(1,pt z),(BI z),(O3 n2)] ⟨w,n26,[(Ak w),(Dz c z),(D9 z),(ZbG c n2 n24),(Zap c n2 z),(ZaU c n24 z)]⟩ [] ⟨rfl,rfl,rfl,rfl,Ae⟩ (.inl rfl) ?_
  refine Es 11 [0,1,2,3,4,5] [(Ak w),(Dz c z),(D9 z),(ZbG c n2 n24),(Zap c n2 z),(ZaU c n24 z)] rfl rfl ?_
  refine CU ?_
  refine BK [1,2,4] [(1,pt z),(BI z),(O3 n2)] ?_
  refine Cb [0,1,2,5,4,3] [(Ak w),(Dz c z),(D9 z),(ZaU c n24 z),(Zap c n2 z),(ZbG c n2 n24)] rfl rfl ?_
  exact hK ⟨(n26,n24,n2+1,n2),by first | omega | (dsimp only;omega)⟩
 rintro⟨⟨n4,b5,b6,b7⟩,hJ28⟩
 simp only at hJ28
 show E _ _ [(1,pt z),(BI z),(CY b7)] _ ⟨w,n4,[(Ak w),(Dz c z),(D9 z),(I9 c b5 z),(BJ z 104 5 AC.cells (.slice (some ⟨b6,0,none⟩) c.Ag.xs.length c.Ag.xs.length) (List.replicate c.Ag.xs.length (⟨0,0,0,0,(⟨none,0,[]⟩:Sl BO)⟩:AC))),(Jt b7 c b5 b6)]⟩ _ _ _
 refine Jw 7 0 [] [[o0,(a1 1),o0,o0]] [Qb z] [(1,pt z),(BI z),(CY b7),(Hl c),(30,i6 0)] rfl ⟨rfl,Ae⟩ ?_
 refine Di (fun m a w'=>∃ (n30:Nat) (k:Nat),m=c.Ag.xs.length - k∧n4≤n30∧(k≤c.Ag.xs.length)∧St 190 [(1,pt z),(BI z),(CY b7),(Hl c),(30,Ac k)] [] ⟨w,n30,(I8 b7 c b5 b6 z w k)⟩ a w') (c.Ag.xs.length - 0) ?_ ?_
 ·intro a w' hs;exact⟨n4,0,rfl,Nat.le_refl _,Nat.zero_le _,by(try dsimp only[Jt,D9,Dz,I9,Un,U2,Hl,BI,CY,I8]at hs ⊢);rw[csUp_zero];exact hs⟩
 rintro m a w' ⟨n30,k,rfl,hn29,hkk,hs⟩
 refine(?_:G Tryd.prog 190 [(1,pt z),(BI z),(CY b7),(Hl c),(30,Ac k)] [] ⟨w,n30,(I8 b7 c b5 b6 z w k)⟩ _ _ _) a w' hs
 clear hs a w'
 have hul:=ZcD (c:=c) (k:=k)
 refine Ce ?_
 by_cases h31:(k:Int)<(c.Ag.xs.length:Int)
 ·refine Az 15 2 [1] [[oT],[o0,o0],[(an 7 1),o0]] [BT ((k:Int)<(c.Ag.xs.length:Int)),Qb z,Qb z,Qb z,Qb z,Qb z,Qb z,Qb z] [(1,pt z),(BI z),(CY b7),(Hl c),(30,Ac k),(5,Ac k),(34,.agg (Aj.arr c)),(35,Ac k)] rfl ⟨bt,rfl,rfl,rfl,rfl,rfl,rfl,rfl,Ae⟩ ?_
  refine Bf 77 #[.agg (Aj.arr c),Ac k] (some 36) (.tuple #[i6 ((gd (CQ c (k:Int) true) 0).partition),i6 ((gd (CQ c (k:Int) true) 0).port)]) (fun w32 hw32=>ZcJ w32 c (k:Int) (hc.ext (hw32.ext rfl) (fun _ h=>h))) (fun n33 (hn34:n30≤n33) => ?_)
  refine BP 4 6 [] [[o0,o0,o0,o0,o0],[o0,(a1 5),o0,o0,(oi k),o0]] [Qb b7,Ci k,k<c.Ag.xs.length,BN] [(1,pt z),(BI z),(CY b7),(Hl c),(30,Ac k),(5,Ac k),(7,i6 ((gd (CQ c (k:Int) true) 0).port)),(42,i6 ((gd (CQ c (k:Int) true) 0).partition)),(44,.pointer (some ⟨b6,0+Gi 5 k+2,none⟩))] rfl ⟨rfl,rfl,(by omega),rfl,Ae⟩ ?_
  refine MH 4 k 2 (PQ c k) (⟨0,0,(gd (CQ c (k:Int) true) 0).partition,0,(⟨none,0,[]⟩:Sl BO)⟩:AC) AC.cells z 104 5 b6 c.Ag.xs.length c.Ag.xs.length (i6 ((gd (CQ c (k:Int) true) 0).partition)) none (by first | omega | (rw[List.length_set];omega)) (by rw[csUp_at (by omega)];rfl) ?_
  refine BP 3 6 [] [[],[o0,(a1 5),o0,o0,(oi k),o0]] [Qb b7,Ci k,k<c.Ag.xs.length,BN] [(1,pt z),(BI z),(CY b7),(Hl c),(30,Ac k),(48,i6 ((gd (CQ c (k:Int) true) 0).port)),(50,.pointer (some ⟨b6,0+Gi 5 k+3,none⟩))] rfl ⟨rfl,rfl,(by omega),rfl,Ae⟩ ?_
  refine MH 4 k 3 ((PQ c k).set k (⟨0,0,(gd (CQ c (k:Int) true) 0).partition,0,(⟨none,0,[]⟩:Sl BO)⟩:AC)) (⟨0,0,(gd (CQ c (k:Int) true) 0).partition,(gd (CQ c (k:Int) true) 0).port,(⟨none,0,[]⟩:Sl BO)⟩:AC) AC.cells z 104 5 b6 c.Ag.xs.length c.Ag.xs.length (i6 ((gd (CQ c (k:Int) true) 0).port)) none (by first | omega | (rw[List.length_set];omega)) (by rw[JY (by first | omega | (rw[List.length_set];omega))];rfl) ?_
  refine BP 5 0 [] [[],[(ov (i6 ((k+1:Nat):Int))),o0]] [Wr ((k:Int)+1) (((k+1:Nat):Int))] [(1,pt z),(BI z),(CY b7),(Hl c),(30,i6 ((k+1:Nat):Int))] rfl ⟨BQ,Ae⟩ ?_
  refine BD (fun a w' hs=>⟨c.Ag.xs.length - (k+1),by omega,n33,(k+1),rfl,by omega,by omega,by(try dsimp only[Jt,D9,Dz,I9,Hl,BI,CY,I8]at hs ⊢);rw[←csUp_succ];simp only[List.set_set]at hs;exact hs⟩)
 refine Az 16 1 [0] [[oF],[o0],[(an 7 1)]] [BF ((k:Int)<(c.Ag.xs.length:Int)),Qb z,Qb z,Qb z,Qb z,Qb z,Qb z,Qb z] [(1,pt z),(BI z),(CY b7),(8,i6 0),(52,.agg (Aj.arr c))] rfl ⟨bf,rfl,rfl,rfl,rfl,rfl,rfl,rfl,Ae⟩ ?_
 refine l_call [] [] 78 #[.agg (Aj.arr c)] (some 53) Ae ?_
 intro w35 hw35
 refine(Zb2 w35 c (hc.ext (hw35.ext rfl) (fun _ h=>h)) hok).mono ?_
 rintro e w36 ⟨ax37,cp38,rfl,hSw36,hkw36⟩
 have hnw36:n30≤w36.heap.size:=Fg hw35 hkw36
 rw[hw35.size]at hSw36
 refine⟨_,_,rfl,hw35.Qi hkw36, ?_⟩
 refine BP 12 0 [] [[o0],[o0,(a1 1),(ov (i6 (16*c.Kernel))),o0],[o0,o0,o0]] [Qb z,Wr ((16:Int)*c.Kernel) (16*c.Kernel)] [(BI z),(CY b7),(8,i6 0),(Gu c cp38 ax37),(10,i6 (16*c.Kernel)),(D8 c),(59,i6 0)] rfl ⟨rfl,BQ,Ae⟩ ?_
 have hkc:k=c.Ag.xs.length:=by omega
 refine ZcL z 106 3 BO.cells c.Ag.xs.length ?_
 refine ZcL z 3 1 (fun x:Int=>[i6 x]) c.Aa.xs.length ?_
 refine Di (fun m a w'=>∃ (n40:Nat) (mm:Nat) (psG:List Aw) (csG:List AC),m=(Dy c).length - mm∧w36.heap.size≤n40∧(mm≤(Dy c).length)∧(psG.length=c.Aa.xs.length)∧(csG.length=c.Ag.xs.length)∧(psG.map nP=(Cf c mm).ps)∧(csG.map nC=(Cf c mm).cs)∧St 190 [(BI z),(CY b7),(8,i6 ((Cf c mm).ch)),(Gu c cp38 ax37),(10,i6 ((Cf c mm).fin)),(D8 c),(59,Ac mm)] [] ⟨w,n40,[(Ak w),(Dz c z),(D9 z),(Fz c b5 z psG),(Fq c b6 z csG),(FP b7 c mm b5 b6),(mid n30 w36),(FB z csG),(FC z psG)]⟩ a w') ((Dy c).length - 0) ?_ ?_
 ·intro a w' hs;exact⟨w36.heap.size,0,(List.replicate c.Aa.xs.length (⟨0,0,0,0,(⟨none,0,[]⟩:Sl Int)⟩:Aw)),(PQ c k),rfl,Nat.le_refl _,Nat.zero_le _,List.length_replicate,ZcD,(by rw[List.map_replicate];apply List.ext_getElem (by simp[Cf,F0]);intro i h1 h2;simp[Cf,F0,nP]),(by rw[hkc,csUp_all];show List.map nC ((List.range _).map (TV c))=(List.range _).map (TV c);rw[List.map_map];rfl),by(try dsimp only[FP,Jt,D9,Dz,I9,Fz,Fq,FC,FB,Hl,D8,Gu,BI,CY,I8]at hs ⊢);rw[csUp_nil,List.map_replicate];exact hs⟩
 rintro m a w' ⟨n40,mm,psG,csG,rfl,hn39,hkmm,hlp,hlc,hps,hcs,hs⟩
 refine(?_:G Tryd.prog 190 [(BI z),(CY b7),(8,i6 ((Cf c mm).ch)),(Gu c cp38 ax37),(10,i6 ((Cf c mm).fin)),(D8 c),(59,Ac mm)] [] ⟨w,n40,[(Ak w),(Dz c z),(D9 z),(Fz c b5 z psG),(Fq c b6 z csG),(FP b7 c mm b5 b6),(mid n30 w36),(FB z csG),(FC z psG)]⟩ _ _ _) a w' hs
 clear hs a w'
 have hpln:=pieces_len hfine
 have hch:=Zbs hfine mm (by omega)
 have hfin:mm<(Dy c).length∨((Cf c mm).fin+16 - 1) / 16=Et c c.Aa.xs.length:=if e:mm<(Dy c).length then .inl e else .inr (by rw[show mm=(Dy c).length by omega];exact(Z5 hfine).2.2.2)
 have htb:=SA hfine c.Aa.xs.length (Nat.le_refl _)
 have htp:=Zal hfine c.Aa.xs.length
 refine Ce ?_
 by_cases h41:(mm:Int)<(((Dy c).length:Nat):Int)
 ·refine Az 14 0 [1] [[oT],[o0,o0]] [BT ((mm:Int)<(((Dy c).length:Nat):Int))] [(BI z),(CY b7),(8,i6 ((Cf c mm).ch)),(Gu c cp38 ax37),(D8 c),(59,Ac mm),(11,Ac mm)] rfl ⟨bt,Ae⟩ ?_
  obtain⟨b42,o43,ha44,hF46,hc45⟩:=((⟨hSw36,pc_ink hfine⟩:Je BR.cells 5 BR.ok _ _ _)).1.all (show 0<(Dy c).length by omega)
  replace ha44:ax37=some ⟨b42,o43,none⟩:=ha44
  refine MQ [(BI z),(CY b7),(8,i6 ((Cf c mm).ch)),(Ej c b42 o43 cp38),(D8 c),(59,Ac mm),(11,Ac mm)] (by(try dsimp only[FP,Jt,D9,Dz,I9,Fz,Fq,FC,FB,Ej,Hl,D8,Gu,BI,CY,I8]);simp only[ha44]) ?_
  have hc47:=hc45 mm (show mm<(Dy c).length by omega)
  have he48:=((⟨hSw36,pc_ink hfine⟩:Je BR.cells 5 BR.ok _ _ _)).2 mm (show mm<(Dy c).length by omega)
  obtain⟨y49,hy49⟩:∃ y_,y_=gd (⟨ax37,cp38,Dy c⟩:Sl BR).xs mm:=⟨_,rfl⟩
  rw[←hy49]at he48 hc47
  have hPc:=ZbC hfine (show mm<(Dy c).length by omega);rw[←hy49]at hPc;unfold Xp at hPc
  refine q_c 17 0 [] [[o0,o0,(oi mm),(oa [.via 6 (i6 y49.At),.via 6 (i6 y49.Size),.via 6 (i6 y49.AP.Kind),.via 6 (i6 y49.AP.Index),.via 6 (i6 y49.AP.Port)]),o0,(an 5 9)],[o0,(a1 9),o0,(a1 9),(ov (i6 (y49.At+y49.Size))),o0],[o0,o0,(a1 9),o0],[o0,o0,(a1 9)]] [Ci mm,mm<(Dy c).length,BN,∀ w',Ch.holds (mid n30 w36) w'→w'.cell? ⟨b42,o43+mm*5,none⟩=some (i6 y49.At),∀ w',Ch.holds (mid n30 w36) w'→w'.cell? ⟨b42,o43+mm*5+1,none⟩=some (i6 y49.Size),∀ w',Ch.holds (mid n30 w36) w'→w'.cell? ⟨b42,o43+mm*5+2,none⟩=some (i6 y49.AP.Kind),∀ w',Ch.holds (mid n30 w36) w'→w'.cell? ⟨b42,o43+mm*5+3,none⟩=some (i6 y49.AP.Index),∀ w',Ch.holds (mid n30 w36) w'→w'.cell? ⟨b42,o43+mm*5+4,none⟩=some (i6 y49.AP.Port),Qb n40,Qb n40,Qb n40,Qb n40,Qb n40,Qb n40,Qb n40,Wr ((y49.At:Int)+y49.Size) (y49.At+y49.Size),Qb n40,Qb n40] [(BI z),(CY b7),(8,i6 ((Cf c mm).ch)),(Ej c b42 o43 cp38),(D8 c),(59,Ac mm),(Ik n40),(DY y49),(13,i6 y49.AP.Index),(76,i6 y49.AP.Kind)] ⟨w,n40+1,[(Ak w),(Dz c z),(D9 z),(Fz c b5 z psG),(Fq c b6 z csG),(FP b7 c mm b5 b6),(mid n30 w36),(FB z csG),(FC z psG),(JF y49 n40)]⟩ rfl ⟨rfl,(by omega),rfl,Oo hF46 (hc47 0 _ rfl),Oo hF46 (hc47 1 _ rfl),Oo hF46 (hc47 2 _ rfl),Oo hF46 (hc47 3 _ rfl),Oo hF46 (hc47 4 _ rfl),rfl,rfl,rfl,rfl,rfl,rfl,rfl,BQ,rfl,rfl,Ae⟩ ?_
  by_cases h50:(y49.AP.Kind:Int)=2
  ·refine q_c 11 0 [1] [[oT,o0],[o0,(a1 9),o0,(a1 5)],[(ov (i6 ((mm+1:Nat):Int))),o0]] [ET y49.AP.Kind 2,Qb n40,Qb b7,Wr ((mm:Int)+1) (((mm+1:Nat):Int))] [(BI z),(CY b7),(8,i6 ((Cf c mm).ch)),(Ej c b42 o43 cp38),(D8 c),(FH mm),(DY y49)] ⟨w,n40+1,[(Ak w),(Dz c z),(D9 z),(Fz c b5 z psG),(Fq c b6 z csG),(VG b7 c b5 b6 y49),(mid n30 w36),(FB z csG),(FC z psG),(JF y49 n40)]⟩ rfl ⟨et,rfl,rfl,BQ,Ae⟩ ?_
   refine Cb [0,1,2,3,4,5,6,7,8] [(Ak w),(Dz c z),(D9 z),(Fz c b5 z psG),(Fq c b6 z csG),(VG b7 c b5 b6 y49),(mid n30 w36),(FB z csG),(FC z psG)] rfl rfl ?_
   have hT:=Kv (c:=c) (m:=mm) (by omega)
   rw[←hy49,st2 _ _ (by omega)]at hT
   refine H5 [2,4,8,9,10,58,59] [(BI z),(CY b7),(8,i6 ((Cf c mm).ch)),(Gu c cp38 ax37),(DY y49),(D8 c),(FH mm)] (by(try dsimp only[FP,VG,Jt,D9,JF,Dz,I9,Fz,Fq,FC,FB,Ej,Hl,D8,Gu,FH,BI,Ik,DY,CY,I8]);simp only[ha44];rfl) ?_
   refine BD (fun a w' hs=>⟨(Dy c).length - (mm+1),by omega,(n40+1),(mm+1),psG,csG,rfl,by omega,by omega,hlp,hlc,by rw[hT];exact hps,by rw[hT];exact hcs,by(try dsimp only[FP,VG,Jt,D9,JF,Dz,I9,Fz,Fq,FC,FB,Ej,Hl,D8,Gu,FH,BI,Ik,DY,CY,I8]at hs ⊢);rw[hT];exact hs⟩)
  refine Az 5 0 [0] [[oF,o0]] [EF y49.AP.Kind 2] [(BI z),(CY b7),(8,i6 ((Cf c mm).ch)),(Ej c b42 o43 cp38),(D8 c),(59,Ac mm),(Ik n40),(DY y49),(13,i6 y49.AP.Index),(76,i6 y49.AP.Kind),(77,.bool false)] rfl ⟨ef,Ae⟩ ?_
  by_cases h51:(y49.AP.Kind:Int)=3
  ·refine Az 5 7 [1] [[oT,o0],[o0,(a1 5),o0,o0,(a1 9),(oi ((y49.AP.Index).toNat)),o0]] [ET y49.AP.Kind 3,Qb b7,Qb n40,(y49.AP.Index:Int)=(((y49.AP.Index).toNat:Nat):Int),(y49.AP.Index).toNat<c.Aa.xs.length,BN] [(BI z),(CY b7),(8,i6 ((Cf c mm).ch)),(Ej c b42 o43 cp38),(D8 c),(59,Ac mm),(DY y49),(88,i6 y49.At),(90,.pointer (some ⟨b5,0+Gi 5 ((y49.AP.Index).toNat),none⟩))] rfl ⟨et,rfl,rfl,(by omega),(by omega),rfl,Ae⟩ ?_
   obtain⟨y52,hy52⟩:∃ y,y=gd psG ((y49.AP.Index).toNat):=⟨_,rfl⟩
   refine MH 3 ((y49.AP.Index).toNat) 0 psG (⟨y49.At,y52.OV,y52.State,y52.Root,(⟨y52.Tables.a,y52.Tables.cap,y52.Tables.xs⟩:Sl Int)⟩:Aw) Aw.cells z 95 5 b5 c.Aa.xs.length c.Aa.xs.length (i6 y49.At) none (by first | omega | (rw[List.length_set];omega)) (by rw[←hy52];rfl) ?_
   refine BP 6 0 [] [[],[(ov (i6 ((mm+1:Nat):Int))),o0]] [Wr ((mm:Int)+1) (((mm+1:Nat):Int))] [(BI z),(CY b7),(8,i6 ((Cf c mm).ch)),(Ej c b42 o43 cp38),(D8 c),(FH mm),(DY y49)] rfl ⟨BQ,Ae⟩ ?_
   refine Cb [0,1,2,3,4,5,6,7,8] [(Ak w),(Dz c z),(D9 z),(BJ z 95 5 Aw.cells (.slice (some ⟨b5,0,none⟩) c.Aa.xs.length c.Aa.xs.length) (psG.set ((y49.AP.Index).toNat) (⟨y49.At,y52.OV,y52.State,y52.Root,(⟨y52.Tables.a,y52.Tables.cap,y52.Tables.xs⟩:Sl Int)⟩:Aw))),(Fq c b6 z csG),(FP b7 c mm b5 b6),(mid n30 w36),(FB z csG),(FC z psG)] rfl rfl ?_
   have hT:=Kv (c:=c) (m:=mm) (by omega)
   rw[←hy49,st3 _ _ (by omega)]at hT
   refine H5 [2,4,8,9,10,58,59] [(BI z),(CY b7),(8,i6 ((Cf c mm).ch)),(Gu c cp38 ax37),(DY y49),(D8 c),(FH mm)] (by(try dsimp only[FP,VG,Jt,D9,JF,Dz,I9,Fz,Fq,FC,FB,Ej,Hl,D8,Gu,FH,BI,Ik,DY,CY,I8]);simp only[ha44];rfl) ?_
   refine BD (fun a w' hs=>⟨(Dy c).length - (mm+1),by omega,(n40+1),(mm+1),(psG.set ((y49.AP.Index).toNat) (⟨y49.At,y52.OV,y52.State,y52.Root,(⟨y52.Tables.a,y52.Tables.cap,y52.Tables.xs⟩:Sl Int)⟩:Aw)),csG,rfl,by omega,by omega,by rw[List.length_set];exact hlp,hlc,by rw[hT];show _=List.set _ _ _;rw[List.map_set,←hps,NG (by omega),←hy52];rfl,by rw[hT];exact hcs,by(try dsimp only[FP,VG,Jt,D9,Dz,I9,Fz,Fq,FC,FB,Ej,Hl,D8,Gu,FH,BI,Ik,DY,CY,I8]at hs ⊢);rw[hT,Ti (f:=Aw.Tables) (by omega) (by rw[←hy52])];exact hs⟩)
  refine Az 5 0 [0] [[oF,o0]] [EF y49.AP.Kind 3] [(BI z),(CY b7),(8,i6 ((Cf c mm).ch)),(Ej c b42 o43 cp38),(D8 c),(59,Ac mm),(Ik n40),(DY y49),(13,i6 y49.AP.Index),(76,i6 y49.AP.Kind),(82,.bool false)] rfl ⟨ef,Ae⟩ ?_
  by_cases h53:(y49.AP.Kind:Int)=4
  ·refine Az 5 7 [1] [[oT,o0],[o0,(a1 5),o0,o0,(a1 9),(oi ((y49.AP.Index).toNat)),o0]] [ET y49.AP.Kind 4,Qb b7,Qb n40,(y49.AP.Index:Int)=(((y49.AP.Index).toNat:Nat):Int),(y49.AP.Index).toNat<c.Aa.xs.length,BN] [(BI z),(CY b7),(8,i6 ((Cf c mm).ch)),(Ej c b42 o43 cp38),(D8 c),(59,Ac mm),(DY y49),(97,i6 y49.At),(99,.pointer (some ⟨b5,0+Gi 5 ((y49.AP.Index).toNat)+1,none⟩))] rfl ⟨et,rfl,rfl,(by omega),(by omega),rfl,Ae⟩ ?_
   obtain⟨y54,hy54⟩:∃ y,y=gd psG ((y49.AP.Index).toNat):=⟨_,rfl⟩
   refine MH 3 ((y49.AP.Index).toNat) 1 psG (⟨y54.Lock,y49.At,y54.State,y54.Root,(⟨y54.Tables.a,y54.Tables.cap,y54.Tables.xs⟩:Sl Int)⟩:Aw) Aw.cells z 95 5 b5 c.Aa.xs.length c.Aa.xs.length (i6 y49.At) none (by first | omega | (rw[List.length_set];omega)) (by rw[←hy54];rfl) ?_
   refine BP 6 0 [] [[],[(ov (i6 ((mm+1:Nat):Int))),o0]] [Wr ((mm:Int)+1) (((mm+1:Nat):Int))] [(BI z),(CY b7),(8,i6 ((Cf c mm).ch)),(Ej c b42 o43 cp38),(D8 c),(FH mm),(DY y49)] rfl ⟨BQ,Ae⟩ ?_
   refine Cb [0,1,2,3,4,5,6,7,8] [(Ak w),(Dz c z),(D9 z),(BJ z 95 5 Aw.cells (.slice (some ⟨b5,0,none⟩) c.Aa.xs.length c.Aa.xs.length) (psG.set ((y49.AP.Index).toNat) (⟨y54.Lock,y49.At,y54.State,y54.Root,(⟨y54.Tables.a,y54.Tables.cap,y54.Tables.xs⟩:Sl Int)⟩:Aw))),(Fq c b6 z csG),(FP b7 c mm b5 b6),(mid n30 w36),(FB z csG),(FC z psG)] rfl rfl ?_
   have hT:=Kv (c:=c) (m:=mm) (by omega)
   rw[←hy49,st4 _ _ (by omega)]at hT
   refine H5 [2,4,8,9,10,58,59] [(BI z),(CY b7),(8,i6 ((Cf c mm).ch)),(Gu c cp38 ax37),(DY y49),(D8 c),(FH mm)] (by(try dsimp only[FP,Jt,D9,Dz,I9,Fz,Fq,FC,FB,Ej,Hl,D8,Gu,FH,BI,Ik,DY,CY,I8]);simp only[ha44];rfl) ?_
   refine BD (fun a w' hs=>⟨(Dy c).length - (mm+1),by omega,(n40+1),(mm+1),(psG.set ((y49.AP.Index).toNat) (⟨y54.Lock,y49.At,y54.State,y54.Root,(⟨y54.Tables.a,y54.Tables.cap,y54.Tables.xs⟩:Sl Int)⟩:Aw)),csG,rfl,by omega,by omega,by rw[List.length_set];exact hlp,hlc,by rw[hT];show _=List.set _ _ _;rw[List.map_set,←hps,NG (by omega),←hy54];rfl,by rw[hT];exact hcs,by(try dsimp only[FP,Jt,D9,Dz,I9,Fz,Fq,FC,FB,Ej,Hl,D8,Gu,FH,BI,Ik,DY,CY,I8]at hs ⊢);rw[hT,Ti (f:=Aw.Tables) (by omega) (by rw[←hy54])];exact hs⟩)
  refine Az 5 0 [0] [[oF,o0]] [EF y49.AP.Kind 4] [(BI z),(CY b7),(8,i6 ((Cf c mm).ch)),(Ej c b42 o43 cp38),(D8 c),(59,Ac mm),(Ik n40),(DY y49),(13,i6 y49.AP.Index),(76,i6 y49.AP.Kind),(91,.bool false)] rfl ⟨ef,Ae⟩ ?_
  by_cases h55:(y49.AP.Kind:Int)=5
  ·refine Az 5 7 [1] [[oT,o0],[o0,(a1 5),o0,o0,(a1 9),(oi ((y49.AP.Index).toNat)),o0]] [ET y49.AP.Kind 5,Qb b7,Qb n40,(y49.AP.Index:Int)=(((y49.AP.Index).toNat:Nat):Int),(y49.AP.Index).toNat<c.Aa.xs.length,BN] [(BI z),(CY b7),(8,i6 ((Cf c mm).ch)),(Ej c b42 o43 cp38),(D8 c),(59,Ac mm),(DY y49),(106,i6 y49.At),(108,.pointer (some ⟨b5,0+Gi 5 ((y49.AP.Index).toNat)+2,none⟩))] rfl ⟨et,rfl,rfl,(by omega),(by omega),rfl,Ae⟩ ?_
   obtain⟨y56,hy56⟩:∃ y,y=gd psG ((y49.AP.Index).toNat):=⟨_,rfl⟩
   refine MH 3 ((y49.AP.Index).toNat) 2 psG (⟨y56.Lock,y56.OV,y49.At,y56.Root,(⟨y56.Tables.a,y56.Tables.cap,y56.Tables.xs⟩:Sl Int)⟩:Aw) Aw.cells z 95 5 b5 c.Aa.xs.length c.Aa.xs.length (i6 y49.At) none (by first | omega | (rw[List.length_set];omega)) (by rw[←hy56];rfl) ?_
   refine BP 6 0 [] [[],[(ov (i6 ((mm+1:Nat):Int))),o0]] [Wr ((mm:Int)+1) (((mm+1:Nat):Int))] [(BI z),(CY b7),(8,i6 ((Cf c mm).ch)),(Ej c b42 o43 cp38),(D8 c),(FH mm),(DY y49)] rfl ⟨BQ,Ae⟩ ?_
   refine Cb [0,1,2,3,4,5,6,7,8] [(Ak w),(Dz c z),(D9 z),(BJ z 95 5 Aw.cells (.slice (some ⟨b5,0,none⟩) c.Aa.xs.length c.Aa.xs.length) (psG.set ((y49.AP.Index).toNat) (⟨y56.Lock,y56.OV,y49.At,y56.Root,(⟨y56.Tables.a,y56.Tables.cap,y56.Tables.xs⟩:Sl Int)⟩:Aw))),(Fq c b6 z csG),(FP b7 c mm b5 b6),(mid n30 w36),(FB z csG),(FC z psG)] rfl rfl ?_
   have hT:=Kv (c:=c) (m:=mm) (by omega)
   rw[←hy49,st5 _ _ (by omega)]at hT
   refine H5 [2,4,8,9,10,58,59] [(BI z),(CY b7),(8,i6 ((Cf c mm).ch)),(Gu c cp38 ax37),(DY y49),(D8 c),(FH mm)] (by(try dsimp only[FP,Jt,D9,Dz,I9,Fz,Fq,FC,FB,Ej,Hl,D8,Gu,FH,BI,Ik,DY,CY,I8]);simp only[ha44];rfl) ?_
   refine BD (fun a w' hs=>⟨(Dy c).length - (mm+1),by omega,(n40+1),(mm+1),(psG.set ((y49.AP.Index).toNat) (⟨y56.Lock,y56.OV,y49.At,y56.Root,(⟨y56.Tables.a,y56.Tables.cap,y56.Tables.xs⟩:Sl Int)⟩:Aw)),csG,rfl,by omega,by omega,by rw[List.length_set];exact hlp,hlc,by rw[hT];show _=List.set _ _ _;rw[List.map_set,←hps,NG (by omega),←hy56];rfl,by rw[hT];exact hcs,by(try dsimp only[FP,Jt,D9,Dz,I9,Fz,Fq,FC,FB,Ej,Hl,D8,Gu,FH,BI,Ik,DY,CY,I8]at hs ⊢);rw[hT,Ti (f:=Aw.Tables) (by omega) (by rw[←hy56])];exact hs⟩)
  refine Az 5 0 [0] [[oF,o0]] [EF y49.AP.Kind 5] [(BI z),(CY b7),(8,i6 ((Cf c mm).ch)),(Ej c b42 o43 cp38),(D8 c),(59,Ac mm),(Ik n40),(DY y49),(13,i6 y49.AP.Index),(76,i6 y49.AP.Kind),(100,.bool false)] rfl ⟨ef,Ae⟩ ?_
  by_cases h57:(y49.AP.Kind:Int)=6
  ·refine Az 6 7 [1] [[oT,o0],[o0,(a1 5),o0,o0,(a1 9),(oi ((y49.AP.Index).toNat)),o0]] [ET y49.AP.Kind 6,Qb b7,Qb n40,(y49.AP.Index:Int)=(((y49.AP.Index).toNat:Nat):Int),(y49.AP.Index).toNat<c.Ag.xs.length,BN] [(BI z),(CY b7),(Ej c b42 o43 cp38),(D8 c),(59,Ac mm),(DY y49),(13,i6 y49.AP.Index),(115,i6 y49.At),(117,.pointer (some ⟨b6,0+Gi 5 ((y49.AP.Index).toNat),none⟩))] rfl ⟨et,rfl,rfl,(by omega),(by omega),rfl,Ae⟩ ?_
   obtain⟨y58,hy58⟩:∃ y,y=gd csG ((y49.AP.Index).toNat):=⟨_,rfl⟩
   refine MH 4 ((y49.AP.Index).toNat) 0 csG (⟨y49.At,y58.PN,y58.Partition,y58.Port,(⟨y58.Ed.a,y58.Ed.cap,y58.Ed.xs⟩:Sl BO)⟩:AC) AC.cells z 104 5 b6 c.Ag.xs.length c.Ag.xs.length (i6 y49.At) none (by first | omega | (rw[List.length_set];omega)) (by rw[←hy58];rfl) ?_
   refine BP 9 0 [] [[],[o0,o0],[(ov (i6 ((mm+1:Nat):Int))),o0]] [Wr ((mm:Int)+1) (((mm+1:Nat):Int))] [(BI z),(CY b7),(Ej c b42 o43 cp38),(D8 c),(FH mm),(DY y49),(8,i6 y49.AP.Index)] rfl ⟨BQ,Ae⟩ ?_
   refine Cb [0,1,2,3,4,5,6,7,8] [(Ak w),(Dz c z),(D9 z),(Fz c b5 z psG),(BJ z 104 5 AC.cells (.slice (some ⟨b6,0,none⟩) c.Ag.xs.length c.Ag.xs.length) (csG.set ((y49.AP.Index).toNat) (⟨y49.At,y58.PN,y58.Partition,y58.Port,(⟨y58.Ed.a,y58.Ed.cap,y58.Ed.xs⟩:Sl BO)⟩:AC))),(FP b7 c mm b5 b6),(mid n30 w36),(FB z csG),(FC z psG)] rfl rfl ?_
   have hT:=Kv (c:=c) (m:=mm) (by omega)
   rw[←hy49,st6 _ _ (by omega)]at hT
   refine H5 [2,4,8,9,10,58,59] [(BI z),(CY b7),(8,i6 y49.AP.Index),(Gu c cp38 ax37),(DY y49),(D8 c),(FH mm)] (by(try dsimp only[FP,Jt,D9,Dz,I9,Fz,Fq,FC,FB,Ej,Hl,D8,Gu,FH,BI,Ik,DY,CY,I8]);simp only[ha44];rfl) ?_
   refine BD (fun a w' hs=>⟨(Dy c).length - (mm+1),by omega,(n40+1),(mm+1),psG,(csG.set ((y49.AP.Index).toNat) (⟨y49.At,y58.PN,y58.Partition,y58.Port,(⟨y58.Ed.a,y58.Ed.cap,y58.Ed.xs⟩:Sl BO)⟩:AC)),rfl,by omega,by omega,hlp,by rw[List.length_set];exact hlc,by rw[hT];exact hps,by rw[hT];show _=List.set _ _ _;rw[List.map_set,←hcs,NG (by omega),←hy58];rfl,by(try dsimp only[FP,Jt,D9,Dz,I9,Fz,Fq,FC,FB,Ej,Hl,D8,Gu,FH,BI,Ik,DY,CY,I8]at hs ⊢);rw[hT,Ti (f:=AC.Ed) (by omega) (by rw[←hy58])];exact hs⟩)
  refine Az 5 0 [0] [[oF,o0]] [EF y49.AP.Kind 6] [(BI z),(CY b7),(8,i6 ((Cf c mm).ch)),(Ej c b42 o43 cp38),(D8 c),(59,Ac mm),(Ik n40),(DY y49),(13,i6 y49.AP.Index),(76,i6 y49.AP.Kind),(109,.bool false)] rfl ⟨ef,Ae⟩ ?_
  by_cases h59:(y49.AP.Kind:Int)=7
  ·refine Az 5 7 [1] [[oT,o0],[o0,(a1 5),o0,o0,(a1 9),(oi ((y49.AP.Index).toNat)),o0]] [ET y49.AP.Kind 7,Qb b7,Qb n40,(y49.AP.Index:Int)=(((y49.AP.Index).toNat:Nat):Int),(y49.AP.Index).toNat<c.Ag.xs.length,BN] [(BI z),(CY b7),(8,i6 ((Cf c mm).ch)),(Ej c b42 o43 cp38),(D8 c),(59,Ac mm),(DY y49),(125,i6 y49.At),(127,.pointer (some ⟨b6,0+Gi 5 ((y49.AP.Index).toNat)+1,none⟩))] rfl ⟨et,rfl,rfl,(by omega),(by omega),rfl,Ae⟩ ?_
   obtain⟨y60,hy60⟩:∃ y,y=gd csG ((y49.AP.Index).toNat):=⟨_,rfl⟩
   refine MH 4 ((y49.AP.Index).toNat) 1 csG (⟨y60.Lock,y49.At,y60.Partition,y60.Port,(⟨y60.Ed.a,y60.Ed.cap,y60.Ed.xs⟩:Sl BO)⟩:AC) AC.cells z 104 5 b6 c.Ag.xs.length c.Ag.xs.length (i6 y49.At) none (by first | omega | (rw[List.length_set];omega)) (by rw[←hy60];rfl) ?_
   refine BP 6 0 [] [[],[(ov (i6 ((mm+1:Nat):Int))),o0]] [Wr ((mm:Int)+1) (((mm+1:Nat):Int))] [(BI z),(CY b7),(8,i6 ((Cf c mm).ch)),(Ej c b42 o43 cp38),(D8 c),(FH mm),(DY y49)] rfl ⟨BQ,Ae⟩ ?_
   refine Cb [0,1,2,3,4,5,6,7,8] [(Ak w),(Dz c z),(D9 z),(Fz c b5 z psG),(BJ z 104 5 AC.cells (.slice (some ⟨b6,0,none⟩) c.Ag.xs.length c.Ag.xs.length) (csG.set ((y49.AP.Index).toNat) (⟨y60.Lock,y49.At,y60.Partition,y60.Port,(⟨y60.Ed.a,y60.Ed.cap,y60.Ed.xs⟩:Sl BO)⟩:AC))),(FP b7 c mm b5 b6),(mid n30 w36),(FB z csG),(FC z psG)] rfl rfl ?_
   have hT:=Kv (c:=c) (m:=mm) (by omega)
   rw[←hy49,st7 _ _ (by omega)]at hT
   refine H5 [2,4,8,9,10,58,59] [(BI z),(CY b7),(8,i6 ((Cf c mm).ch)),(Gu c cp38 ax37),(DY y49),(D8 c),(FH mm)] (by(try dsimp only[FP,Jt,D9,Dz,I9,Fz,Fq,FC,FB,Ej,Hl,D8,Gu,FH,BI,Ik,DY,CY,I8]);simp only[ha44];rfl) ?_
   refine BD (fun a w' hs=>⟨(Dy c).length - (mm+1),by omega,(n40+1),(mm+1),psG,(csG.set ((y49.AP.Index).toNat) (⟨y60.Lock,y49.At,y60.Partition,y60.Port,(⟨y60.Ed.a,y60.Ed.cap,y60.Ed.xs⟩:Sl BO)⟩:AC)),rfl,by omega,by omega,hlp,by rw[List.length_set];exact hlc,by rw[hT];exact hps,by rw[hT];show _=List.set _ _ _;rw[List.map_set,←hcs,NG (by omega),←hy60];rfl,by(try dsimp only[FP,Jt,D9,Dz,I9,Fz,Fq,FC,FB,Ej,Hl,D8,Gu,FH,BI,Ik,DY,CY,I8]at hs ⊢);rw[hT,Ti (f:=AC.Ed) (by omega) (by rw[←hy60])];exact hs⟩)
  refine Az 5 0 [0] [[oF,o0]] [EF y49.AP.Kind 7] [(BI z),(CY b7),(8,i6 ((Cf c mm).ch)),(Ej c b42 o43 cp38),(D8 c),(59,Ac mm),(Ik n40),(DY y49),(13,i6 y49.AP.Index),(76,i6 y49.AP.Kind),(119,.bool false)] rfl ⟨ef,Ae⟩ ?_
  by_cases h61:(y49.AP.Kind:Int)=8
  ·refine Az 4 0 [1] [[oT,o0]] [ET y49.AP.Kind 8] [(BI z),(CY b7),(8,i6 ((Cf c mm).ch)),(Ej c b42 o43 cp38),(D8 c),(59,Ac mm),(Ik n40),(DY y49),(13,i6 y49.AP.Index),(76,i6 y49.AP.Kind),(128,.bool true)] rfl ⟨et,Ae⟩ ?_
   obtain⟨y62,hy62⟩:∃ y,y=gd csG (((Cf c mm).ch).toNat):=⟨_,rfl⟩
   refine WW 7 [0,1,2,3,4,5,6,8,9] z 106 3 BO.cells (csG.map AC.Ed) (((Cf c mm).ch).toNat) y62.Ed (by rw[NG (by omega),←hy62]) (by rw[List.length_map];omega) [(Ak w),(Dz c z),(D9 z),(Fz c b5 z psG),(Fq c b6 z csG),(FP b7 c mm b5 b6),(mid n30 w36),(FC z psG),(JF y49 n40)] ?_
   have hbig:y62.Ed.xs.length≤mm:=by have hb:=(Xj hfine mm (by omega)).2 (nC y62) (by rw[hy62,←hcs];exact List.mem_map_of_mem (Q8 (by omega)));exact hb
   refine Eh 20 [0,1,2,3,4,5,6,7,8,9] [(Ak w),(Dz c z),(D9 z),(Fz c b5 z psG),(Fq c b6 z csG),(FP b7 c mm b5 b6),(mid n30 w36),(FC z psG),(JF y49 n40),(Ws c mm z csG)] rfl rfl ?_
   refine Dj [(0,o0),(1,(a1 5)),(2,o0),(3,o0),(4,(a1 5)),(5,o0),(6,(oi (((Cf c mm).ch).toNat))),(7,o0),(8,(oa [.via 4 (.slice y62.Ed.a y62.Ed.xs.length y62.Ed.cap)])),(9,o0),(10,o0),(11,o0),(12,(a1 8)),(13,o0),(14,(a1 8)),(15,o0)] [2,4,8,9,58,59,10,131,132,138,145] [Qb b7,Qb b7,((Cf c mm).ch:Int)=((((Cf c mm).ch).toNat:Nat):Int),((Cf c mm).ch).toNat<c.Ag.xs.length,BN,∀ w',Ch.holds (Fq c b6 z csG) w'→w'.cell? ⟨b6,0+Gi 5 (((Cf c mm).ch).toNat)+4,none⟩=some (.slice y62.Ed.a y62.Ed.xs.length y62.Ed.cap),Qb n40,Qb n40] (DF 16 5) [(BI z),(CY b7),(8,i6 ((Cf c mm).ch)),(Ej c b42 o43 cp38),(D8 c),(59,Ac mm),(DY y49),(VL c b6),(132,i6 ((Cf c mm).ch)),(138,.slice y62.Ed.a y62.Ed.xs.length y62.Ed.cap),(145,.agg #[i6 y49.AP.Index,i6 y49.AP.Port,i6 y49.At])] ⟨rfl,rfl,(by omega),(by omega),rfl,Ha (sz:=5) (j:=((Cf c mm).ch).toNat) (k:=4) (fun _=>rfl) (by first | omega | (rw[List.length_set];omega)) (by rw[←hy62];rfl),rfl,rfl,Ae⟩ ?_
   refine BC 16 ?_
   refine BH o0 [2,4,8,9,58,59,10,131,132,138,146] [] [(BI z),(CY b7),(8,i6 ((Cf c mm).ch)),(Ej c b42 o43 cp38),(D8 c),(59,Ac mm),(DY y49),(VL c b6),(132,i6 ((Cf c mm).ch)),(138,.slice y62.Ed.a y62.Ed.xs.length y62.Ed.cap),(146,.slice (some ⟨n40+1,0,none⟩) 1 1)] ⟨w,n40+2,[(Ak w),(Dz c z),(D9 z),(Fz c b5 z psG),(Fq c b6 z csG),(FP b7 c mm b5 b6),(mid n30 w36),(FC z psG),(JF y49 n40),(Ws c mm z csG),(BJ z 106 3 BO.cells (.slice y62.Ed.a y62.Ed.xs.length y62.Ed.cap) y62.Ed.xs),(XC y49 n40)]⟩ [0,1,2,3,4,5,6,7,8,9] Ae (.inr rfl) ?_
   refine BC 17 ?_
   refine W9 z 10 11 y62.Ed.xs [(⟨y49.AP.Index,y49.AP.Port,y49.At⟩:BO)] BO.cells 106 3 24 (.slice y62.Ed.a y62.Ed.xs.length y62.Ed.cap) (n40+1) 1 1 #[i6 y49.AP.Index,i6 y49.AP.Port,i6 y49.At] 106 (0,0) true (some 147) [0,1,2,3,4,5,6,7,8,9] (by simp only[List.length_cons,List.length_nil,List.length_append];omega) (show z≤n40+2 by omega) (.inr ⟨rfl,rfl⟩) (fun ax63 cp64 n65 (hn66:n40+2≤n65) => ?_)
   refine DU [2,4,8,9,58,59,10,131,132,147] [(BI z),(CY b7),(8,i6 ((Cf c mm).ch)),(Ej c b42 o43 cp38),(D8 c),(59,Ac mm),(DY y49),(VL c b6),(132,i6 ((Cf c mm).ch)),(147,.slice ax63 ((y62.Ed.xs++[(⟨y49.AP.Index,y49.AP.Port,y49.At⟩:BO)]).length) cp64)] ?_
   refine Dj [(18,(oi (((Cf c mm).ch).toNat))),(19,o0)] [2,4,8,9,58,59,10,147,149] [((Cf c mm).ch:Int)=((((Cf c mm).ch).toNat:Nat):Int),((Cf c mm).ch).toNat<c.Ag.xs.length,BN] (DF 20 1) [(BI z),(CY b7),(8,i6 ((Cf c mm).ch)),(Ej c b42 o43 cp38),(D8 c),(59,Ac mm),(DY y49),(147,.slice ax63 ((y62.Ed.xs++[(⟨y49.AP.Index,y49.AP.Port,y49.At⟩:BO)]).length) cp64),(149,.pointer (some ⟨b6,0+Gi 5 (((Cf c mm).ch).toNat)+4,none⟩))] ⟨(by omega),(by omega),rfl,Ae⟩ ?_
   refine BC 20 ?_
   refine Vf 4 (((Cf c mm).ch).toNat) 4 csG (⟨y62.Lock,y62.PN,y62.Partition,y62.Port,(⟨ax63,cp64,(y62.Ed.xs++[(⟨y49.AP.Index,y49.AP.Port,y49.At⟩:BO)])⟩:Sl BO)⟩:AC) AC.cells z 104 5 b6 c.Ag.xs.length c.Ag.xs.length (.slice ax63 ((y62.Ed.xs++[(⟨y49.AP.Index,y49.AP.Port,y49.At⟩:BO)]).length) cp64) none [] (by first | omega | (rw[List.length_set];omega)) (by rw[←hy62];rfl) (.inl rfl) ?_
   refine DU [2,4,8,9,58,59,10] [(BI z),(CY b7),(8,i6 ((Cf c mm).ch)),(Ej c b42 o43 cp38),(D8 c),(59,Ac mm),(DY y49)] ?_
   refine Es 21 [0,1,2,3,4,5,6,7,8,9,10,11] [(Ak w),(Dz c z),(D9 z),(Fz c b5 z psG),(VH c mm b6 y49 z csG y62 ax63 cp64),(FP b7 c mm b5 b6),(mid n30 w36),(FC z psG),(JF y49 n40),(Ws c mm z csG),(BJ z 106 3 BO.cells (.slice ax63 ((y62.Ed.xs++[(⟨y49.AP.Index,y49.AP.Port,y49.At⟩:BO)]).length) cp64) (y62.Ed.xs++[(⟨y49.AP.Index,y49.AP.Port,y49.At⟩:BO)])),(XC y49 n40)] rfl rfl ?_
   refine CU ?_
   refine Jw 5 0 [] [[(ov (i6 ((mm+1:Nat):Int))),o0]] [Wr ((mm:Int)+1) (((mm+1:Nat):Int))] [(BI z),(CY b7),(8,i6 ((Cf c mm).ch)),(Ej c b42 o43 cp38),(D8 c),(FH mm),(DY y49)] rfl ⟨BQ,Ae⟩ ?_
   refine Zd0 9 10 [0,1,2,3,4,5,6,7,8,11] z 106 3 BO.cells (csG.map AC.Ed) (((Cf c mm).ch).toNat) (by rw[List.length_map];omega) ax63 cp64 (y62.Ed.xs++[(⟨y49.AP.Index,y49.AP.Port,y49.At⟩:BO)]) [(Ak w),(Dz c z),(D9 z),(Fz c b5 z psG),(VH c mm b6 y49 z csG y62 ax63 cp64),(FP b7 c mm b5 b6),(mid n30 w36),(FC z psG),(JF y49 n40),(XC y49 n40)] ?_
   refine Cb [0,1,2,3,4,5,6,10,7] [(Ak w),(Dz c z),(D9 z),(Fz c b5 z psG),(VH c mm b6 y49 z csG y62 ax63 cp64),(FP b7 c mm b5 b6),(mid n30 w36),(Be z 106 3 BO.cells ((csG.map AC.Ed).set (((Cf c mm).ch).toNat) ⟨ax63,cp64,(y62.Ed.xs++[(⟨y49.AP.Index,y49.AP.Port,y49.At⟩:BO)])⟩)),(FC z psG)] rfl rfl ?_
   have hT:=Kv (c:=c) (m:=mm) (by omega)
   rw[←hy49,st8 _ _ (by omega)]at hT
   refine H5 [2,4,8,9,10,58,59] [(BI z),(CY b7),(8,i6 ((Cf c mm).ch)),(Gu c cp38 ax37),(DY y49),(D8 c),(FH mm)] (by(try dsimp only[FP,Jt,XC,D9,JF,Dz,VH,I9,Fz,Fq,Ws,FC,FB,VL,Ej,Hl,D8,Gu,FH,BI,DY,CY,I8]);simp only[ha44];rfl) ?_
   refine BD (fun a w' hs=>⟨(Dy c).length - (mm+1),by omega,n65,(mm+1),psG,(csG.set (((Cf c mm).ch).toNat) (⟨y62.Lock,y62.PN,y62.Partition,y62.Port,(⟨ax63,cp64,(y62.Ed.xs++[(⟨y49.AP.Index,y49.AP.Port,y49.At⟩:BO)])⟩:Sl BO)⟩:AC)),rfl,by omega,by omega,hlp,by rw[List.length_set];exact hlc,by rw[hT];exact hps,by rw[hT];show _=List.set _ _ _;rw[List.map_set,←hcs,NG (by omega),←hy62];rfl,by(try dsimp only[FP,Jt,XC,D9,JF,Dz,VH,I9,Fz,Fq,Ws,FC,FB,VL,Ej,Hl,D8,Gu,FH,BI,DY,CY,I8]at hs ⊢);rw[hT,List.map_set];exact hs⟩)
  refine Az 5 0 [0] [[oF,o0]] [EF y49.AP.Kind 8] [(BI z),(CY b7),(8,i6 ((Cf c mm).ch)),(Ej c b42 o43 cp38),(D8 c),(59,Ac mm),(Ik n40),(DY y49),(13,i6 y49.AP.Index),(76,i6 y49.AP.Kind),(128,.bool false)] rfl ⟨ef,Ae⟩ ?_
  by_cases h67:(y49.AP.Kind:Int)=9
  ·refine Az 5 0 [1] [[oT,o0]] [ET y49.AP.Kind 9] [(BI z),(CY b7),(8,i6 ((Cf c mm).ch)),(Ej c b42 o43 cp38),(D8 c),(59,Ac mm),(Ik n40),(DY y49),(13,i6 y49.AP.Index),(150,.bool true)] rfl ⟨et,Ae⟩ ?_
   obtain⟨y68,hy68⟩:∃ y,y=gd psG ((y49.AP.Index).toNat):=⟨_,rfl⟩
   by_cases h69:(y68.Root:Int)=0
   ·refine Az 5 8 [1] [[o0,(a1 5),o0,(oi ((y49.AP.Index).toNat)),o0,(oa [.via 3 (i6 y68.Root)]),oT],[o0,(a1 5),o0,o0,(a1 9),(ov (i6 (y49.At / 16))),(oi ((y49.AP.Index).toNat)),o0]] [Qb b7,(y49.AP.Index:Int)=(((y49.AP.Index).toNat:Nat):Int),(y49.AP.Index).toNat<c.Aa.xs.length,BN,∀ w',Ch.holds (Fz c b5 z psG) w'→w'.cell? ⟨b5,0+Gi 5 ((y49.AP.Index).toNat)+3,none⟩=some (i6 y68.Root),ET y68.Root 0,Qb b7,Qb n40,Wr (Int.tdiv (y49.At) 16) (y49.At / 16),(y49.AP.Index:Int)=(((y49.AP.Index).toNat:Nat):Int),(y49.AP.Index).toNat<c.Aa.xs.length,BN] [(BI z),(CY b7),(8,i6 ((Cf c mm).ch)),(Ej c b42 o43 cp38),(D8 c),(59,Ac mm),(DY y49),(164,i6 (y49.At / 16)),(166,.pointer (some ⟨b5,0+Gi 5 ((y49.AP.Index).toNat)+3,none⟩))] rfl ⟨rfl,(by omega),(by omega),rfl,Ha (sz:=5) (j:=(y49.AP.Index).toNat) (k:=3) (fun _=>rfl) (by first | omega | (rw[List.length_set];omega)) (by rw[←hy68];rfl),et,rfl,rfl,congrArg (Value.int .i64) (Pn (by omega) (by omega) (by omega)),(by omega),(by omega),rfl,Ae⟩ ?_
    refine MH 3 ((y49.AP.Index).toNat) 3 psG (⟨y68.Lock,y68.OV,y68.State,y49.At / 16,(⟨y68.Tables.a,y68.Tables.cap,y68.Tables.xs⟩:Sl Int)⟩:Aw) Aw.cells z 95 5 b5 c.Aa.xs.length c.Aa.xs.length (i6 (y49.At / 16)) none (by first | omega | (rw[List.length_set];omega)) (by rw[←hy68];rfl) ?_
    refine BP 6 0 [] [[],[(ov (i6 ((mm+1:Nat):Int))),o0]] [Wr ((mm:Int)+1) (((mm+1:Nat):Int))] [(BI z),(CY b7),(8,i6 ((Cf c mm).ch)),(Ej c b42 o43 cp38),(D8 c),(FH mm),(DY y49)] rfl ⟨BQ,Ae⟩ ?_
    refine Cb [0,1,2,3,4,5,6,7,8] [(Ak w),(Dz c z),(D9 z),(BJ z 95 5 Aw.cells (.slice (some ⟨b5,0,none⟩) c.Aa.xs.length c.Aa.xs.length) (psG.set ((y49.AP.Index).toNat) (⟨y68.Lock,y68.OV,y68.State,y49.At / 16,(⟨y68.Tables.a,y68.Tables.cap,y68.Tables.xs⟩:Sl Int)⟩:Aw))),(Fq c b6 z csG),(FP b7 c mm b5 b6),(mid n30 w36),(FB z csG),(FC z psG)] rfl rfl ?_
    have hT:=Kv (c:=c) (m:=mm) (by omega)
    rw[←hy49,st9 _ _ (by omega)]at hT
    refine H5 [2,4,8,9,10,58,59] [(BI z),(CY b7),(8,i6 ((Cf c mm).ch)),(Gu c cp38 ax37),(DY y49),(D8 c),(FH mm)] (by(try dsimp only[FP,Jt,D9,Dz,I9,Fz,Fq,FC,FB,Ej,Hl,D8,Gu,FH,BI,Ik,DY,CY,I8]);simp only[ha44];rfl) ?_
    refine BD (fun a w' hs=>⟨(Dy c).length - (mm+1),by omega,(n40+1),(mm+1),(psG.set ((y49.AP.Index).toNat) (⟨y68.Lock,y68.OV,y68.State,y49.At / 16,(⟨y68.Tables.a,y68.Tables.cap,y68.Tables.xs⟩:Sl Int)⟩:Aw)),csG,rfl,by omega,by omega,by rw[List.length_set];exact hlp,hlc,by rw[hT];show _=List.set _ _ _;rw[List.map_set,←hps,NG (by omega),←hy68];rw[tabF_pos (p:=nP y68) (show y68.Root=0 from by omega)];rfl,by rw[hT];exact hcs,by(try dsimp only[FP,Jt,D9,Dz,I9,Fz,Fq,FC,FB,Ej,Hl,D8,Gu,FH,BI,Ik,DY,CY,I8]at hs ⊢);rw[hT,Ti (f:=Aw.Tables) (by omega) (by rw[←hy68])];exact hs⟩)
   refine Az 4 0 [0] [[o0,(a1 5),o0,(oi ((y49.AP.Index).toNat)),o0,(oa [.via 3 (i6 y68.Root)]),oF]] [Qb b7,(y49.AP.Index:Int)=(((y49.AP.Index).toNat:Nat):Int),(y49.AP.Index).toNat<c.Aa.xs.length,BN,∀ w',Ch.holds (Fz c b5 z psG) w'→w'.cell? ⟨b5,0+Gi 5 ((y49.AP.Index).toNat)+3,none⟩=some (i6 y68.Root),EF y68.Root 0] [(BI z),(CY b7),(8,i6 ((Cf c mm).ch)),(Ej c b42 o43 cp38),(D8 c),(59,Ac mm),(Ik n40),(DY y49),(13,i6 y49.AP.Index),(158,.bool false)] rfl ⟨rfl,(by omega),(by omega),rfl,Ha (sz:=5) (j:=(y49.AP.Index).toNat) (k:=3) (fun _=>rfl) (by first | omega | (rw[List.length_set];omega)) (by rw[←hy68];rfl),ef,Ae⟩ ?_
   refine WW 8 [0,1,2,3,4,5,6,7,9] z 3 1 (fun x:Int=>[i6 x]) (psG.map Aw.Tables) ((y49.AP.Index).toNat) y68.Tables (by rw[NG (by omega),←hy68]) (by rw[List.length_map];omega) [(Ak w),(Dz c z),(D9 z),(Fz c b5 z psG),(Fq c b6 z csG),(FP b7 c mm b5 b6),(mid n30 w36),(FB z csG),(JF y49 n40)] ?_
   have hbig:y68.Tables.xs.length≤mm:=by have hb:=(Xj hfine mm (by omega)).1 (nP y68) (by rw[hy68,←hps];exact List.mem_map_of_mem (Q8 (by omega)));exact hb
   refine Eh 16 [0,1,2,3,4,5,6,7,8,9] [(Ak w),(Dz c z),(D9 z),(Fz c b5 z psG),(Fq c b6 z csG),(FP b7 c mm b5 b6),(mid n30 w36),(FB z csG),(JF y49 n40),(VS y49 z psG)] rfl rfl ?_
   refine Dj [(0,o0),(1,(a1 5)),(2,o0),(3,o0),(4,(a1 5)),(5,o0),(6,(oi ((y49.AP.Index).toNat))),(7,o0),(8,(oa [.via 3 (.slice y68.Tables.a y68.Tables.xs.length y68.Tables.cap)])),(9,o0),(10,(a1 8)),(11,(ov (i6 (y49.At / 16))))] [2,4,8,9,58,59,10,168,169,175,178] [Qb b7,Qb b7,(y49.AP.Index:Int)=(((y49.AP.Index).toNat:Nat):Int),(y49.AP.Index).toNat<c.Aa.xs.length,BN,∀ w',Ch.holds (Fz c b5 z psG) w'→w'.cell? ⟨b5,0+Gi 5 ((y49.AP.Index).toNat)+4,none⟩=some (.slice y68.Tables.a y68.Tables.xs.length y68.Tables.cap),Qb n40,Wr (Int.tdiv (y49.At) 16) (y49.At / 16)] (DF 12 5) [(BI z),(CY b7),(8,i6 ((Cf c mm).ch)),(Ej c b42 o43 cp38),(D8 c),(59,Ac mm),(DY y49),(VW c b5),(169,i6 y49.AP.Index),(175,.slice y68.Tables.a y68.Tables.xs.length y68.Tables.cap),(178,i6 (y49.At / 16))] ⟨rfl,rfl,(by omega),(by omega),rfl,Ha (sz:=5) (j:=(y49.AP.Index).toNat) (k:=4) (fun _=>rfl) (by first | omega | (rw[List.length_set];omega)) (by rw[←hy68];rfl),rfl,congrArg (Value.int .i64) (Pn (by omega) (by omega) (by omega)),Ae⟩ ?_
   refine BC 12 ?_
   refine BH o0 [2,4,8,9,58,59,10,168,169,175,179] [] [(BI z),(CY b7),(8,i6 ((Cf c mm).ch)),(Ej c b42 o43 cp38),(D8 c),(59,Ac mm),(DY y49),(VW c b5),(169,i6 y49.AP.Index),(175,.slice y68.Tables.a y68.Tables.xs.length y68.Tables.cap),(179,.slice (some ⟨n40+1,0,none⟩) 1 1)] ⟨w,n40+2,[(Ak w),(Dz c z),(D9 z),(Fz c b5 z psG),(Fq c b6 z csG),(FP b7 c mm b5 b6),(mid n30 w36),(FB z csG),(JF y49 n40),(VS y49 z psG),(BJ z 3 1 (fun x:Int=>[i6 x]) (.slice y68.Tables.a y68.Tables.xs.length y68.Tables.cap) y68.Tables.xs),(bk (n40+1) #[i6 (y49.At / 16)] 3)]⟩ [0,1,2,3,4,5,6,7,8,9] Ae (.inr rfl) ?_
   refine BC 13 ?_
   refine W9 z 10 11 y68.Tables.xs [y49.At / 16] (fun x:Int=>[i6 x]) 3 1 8 (.slice y68.Tables.a y68.Tables.xs.length y68.Tables.cap) (n40+1) 1 1 #[i6 (y49.At / 16)] 3 (0,0) true (some 180) [0,1,2,3,4,5,6,7,8,9] (by simp only[List.length_cons,List.length_nil,List.length_append];omega) (show z≤n40+2 by omega) (.inr ⟨rfl,rfl⟩) (fun ax70 cp71 n72 (hn73:n40+2≤n72) => ?_)
   refine DU [2,4,8,9,58,59,10,168,169,180] [(BI z),(CY b7),(8,i6 ((Cf c mm).ch)),(Ej c b42 o43 cp38),(D8 c),(59,Ac mm),(DY y49),(VW c b5),(169,i6 y49.AP.Index),(180,.slice ax70 ((y68.Tables.xs++[y49.At / 16]).length) cp71)] ?_
   refine Dj [(14,(oi ((y49.AP.Index).toNat))),(15,o0)] [2,4,8,9,58,59,10,180,182] [(y49.AP.Index:Int)=(((y49.AP.Index).toNat:Nat):Int),(y49.AP.Index).toNat<c.Aa.xs.length,BN] (DF 16 1) [(BI z),(CY b7),(8,i6 ((Cf c mm).ch)),(Ej c b42 o43 cp38),(D8 c),(59,Ac mm),(DY y49),(180,.slice ax70 ((y68.Tables.xs++[y49.At / 16]).length) cp71),(182,.pointer (some ⟨b5,0+Gi 5 ((y49.AP.Index).toNat)+4,none⟩))] ⟨(by omega),(by omega),rfl,Ae⟩ ?_
   refine BC 16 ?_
   refine Vf 3 ((y49.AP.Index).toNat) 4 psG (⟨y68.Lock,y68.OV,y68.State,y68.Root,(⟨ax70,cp71,(y68.Tables.xs++[y49.At / 16])⟩:Sl Int)⟩:Aw) Aw.cells z 95 5 b5 c.Aa.xs.length c.Aa.xs.length (.slice ax70 ((y68.Tables.xs++[y49.At / 16]).length) cp71) none [] (by first | omega | (rw[List.length_set];omega)) (by rw[←hy68];rfl) (.inl rfl) ?_
   refine DU [2,4,8,9,58,59,10] [(BI z),(CY b7),(8,i6 ((Cf c mm).ch)),(Ej c b42 o43 cp38),(D8 c),(59,Ac mm),(DY y49)] ?_
   refine Es 17 [0,1,2,3,4,5,6,7,8,9,10,11] [(Ak w),(Dz c z),(D9 z),(V8 c b5 y49 z psG y68 ax70 cp71),(Fq c b6 z csG),(FP b7 c mm b5 b6),(mid n30 w36),(FB z csG),(JF y49 n40),(VS y49 z psG),(BJ z 3 1 (fun x:Int=>[i6 x]) (.slice ax70 ((y68.Tables.xs++[y49.At / 16]).length) cp71) (y68.Tables.xs++[y49.At / 16])),(bk (n40+1) #[i6 (y49.At / 16)] 3)] rfl rfl ?_
   refine CU ?_
   refine Jw 5 0 [] [[(ov (i6 ((mm+1:Nat):Int))),o0]] [Wr ((mm:Int)+1) (((mm+1:Nat):Int))] [(BI z),(CY b7),(8,i6 ((Cf c mm).ch)),(Ej c b42 o43 cp38),(D8 c),(FH mm),(DY y49)] rfl ⟨BQ,Ae⟩ ?_
   refine Zd0 9 10 [0,1,2,3,4,5,6,7,8,11] z 3 1 (fun x:Int=>[i6 x]) (psG.map Aw.Tables) ((y49.AP.Index).toNat) (by rw[List.length_map];omega) ax70 cp71 (y68.Tables.xs++[y49.At / 16]) [(Ak w),(Dz c z),(D9 z),(V8 c b5 y49 z psG y68 ax70 cp71),(Fq c b6 z csG),(FP b7 c mm b5 b6),(mid n30 w36),(FB z csG),(JF y49 n40),(bk (n40+1) #[i6 (y49.At / 16)] 3)] ?_
   refine Cb [0,1,2,3,4,5,6,7,10] [(Ak w),(Dz c z),(D9 z),(V8 c b5 y49 z psG y68 ax70 cp71),(Fq c b6 z csG),(FP b7 c mm b5 b6),(mid n30 w36),(FB z csG),(Be z 3 1 (fun x:Int=>[i6 x]) ((psG.map Aw.Tables).set ((y49.AP.Index).toNat) ⟨ax70,cp71,(y68.Tables.xs++[y49.At / 16])⟩))] rfl rfl ?_
   have hT:=Kv (c:=c) (m:=mm) (by omega)
   rw[←hy49,st9 _ _ (by omega)]at hT
   refine H5 [2,4,8,9,10,58,59] [(BI z),(CY b7),(8,i6 ((Cf c mm).ch)),(Gu c cp38 ax37),(DY y49),(D8 c),(FH mm)] (by(try dsimp only[FP,Jt,D9,JF,Dz,V8,I9,VS,Fz,Fq,FC,FB,VW,Ej,Hl,D8,Gu,FH,BI,DY,CY,I8]);simp only[ha44];rfl) ?_
   refine BD (fun a w' hs=>⟨(Dy c).length - (mm+1),by omega,n72,(mm+1),(psG.set ((y49.AP.Index).toNat) (⟨y68.Lock,y68.OV,y68.State,y68.Root,(⟨ax70,cp71,(y68.Tables.xs++[y49.At / 16])⟩:Sl Int)⟩:Aw)),csG,rfl,by omega,by omega,by rw[List.length_set];exact hlp,hlc,by rw[hT];show _=List.set _ _ _;rw[List.map_set,←hps,NG (by omega),←hy68];rw[tabF_neg (p:=nP y68) (show ¬ y68.Root=0 from by omega)];rfl,by rw[hT];exact hcs,by(try dsimp only[FP,Jt,D9,JF,Dz,V8,I9,VS,Fz,Fq,FC,FB,VW,Ej,Hl,D8,Gu,FH,BI,DY,CY,I8]at hs ⊢);rw[hT,List.map_set];exact hs⟩)
  refine Az 10 0 [0] [[oF,o0],[(ov (i6 ((mm+1:Nat):Int))),o0]] [EF y49.AP.Kind 9,Wr ((mm:Int)+1) (((mm+1:Nat):Int))] [(BI z),(CY b7),(8,i6 ((Cf c mm).ch)),(Ej c b42 o43 cp38),(D8 c),(FH mm),(DY y49)] rfl ⟨ef,BQ,Ae⟩ ?_
  exfalso;omega
 refine q_c 19 0 [0] [[oF],[o0,(ov (i6 (((Cf c mm).fin)+16))),(ov (i6 ((((Cf c mm).fin)+16) - 1))),(ov (i6 (((((Cf c mm).fin)+16) - 1) / 16))),o0,(a1 5)],[(an 4 5),(an 4 2),o0]] [BF ((mm:Int)<(((Dy c).length:Nat):Int)),Wr (((Cf c mm).fin:Int)+16) (((Cf c mm).fin)+16),Wr ((((Cf c mm).fin)+16:Int) - 1) ((((Cf c mm).fin)+16) - 1),Wr (Int.tdiv ((((Cf c mm).fin)+16) - 1) 16) (((((Cf c mm).fin)+16) - 1) / 16),Qb b7,Qb b7,Qb b7,Qb b7,Qb b7,Qb (z+1),Qb (z+1),Qb (z+1),Qb (z+1)] [(BI z),(3,i6 0)] ⟨w,n40,[(Ak w),(Dz c z),(bk (z+1) #[i6 ((Cf c mm).bar),.slice (some ⟨b5,0,none⟩) c.Aa.xs.length c.Aa.xs.length,.slice (some ⟨b6,0,none⟩) c.Ag.xs.length c.Ag.xs.length,i6 (((((Cf c mm).fin)+16) - 1) / 16)] 79),(Fz c b5 z psG),(Fq c b6 z csG),(bk b7 #[i6 ((Cf c mm).bar),.slice (some ⟨b5,0,none⟩) c.Aa.xs.length c.Aa.xs.length,.slice (some ⟨b6,0,none⟩) c.Ag.xs.length c.Ag.xs.length,i6 (((((Cf c mm).fin)+16) - 1) / 16)] 79),(mid n30 w36),(FB z csG),(FC z psG)]⟩ rfl ⟨bf,BQ,BQ,congrArg (Value.int .i64) (Pn (by omega) (by omega) (by omega)),rfl,rfl,rfl,rfl,rfl,rfl,rfl,rfl,rfl,Ae⟩ ?_
 refine AA [.at 2,.at 2,.at 2,.at 2] [Qb (z+1),Qb (z+1),Qb (z+1),Qb (z+1)] (.tuple #[.agg #[i6 ((Cf c mm).bar),.slice (some ⟨b5,0,none⟩) c.Aa.xs.length c.Aa.xs.length,.slice (some ⟨b6,0,none⟩) c.Ag.xs.length c.Ag.xs.length,i6 (((((Cf c mm).fin)+16) - 1) / 16)],i6 0]) ⟨rfl,rfl,rfl,rfl,Ae⟩ ?_
 intro w74 hw74
 have hm:mm=(Dy c).length:=by omega
 subst hm
 have hL:Yj c ⟨(Cf c (Dy c).length).bar,⟨(some ⟨b5,0,none⟩),c.Aa.xs.length,psG⟩,⟨(some ⟨b6,0,none⟩),c.Ag.xs.length,csG⟩,((Cf c (Dy c).length).fin+16 - 1) / 16⟩:=lay_of hfine hps hcs
 have hO:Xw z w74 ⟨(Cf c (Dy c).length).bar,⟨(some ⟨b5,0,none⟩),c.Aa.xs.length,psG⟩,⟨(some ⟨b6,0,none⟩),c.Ag.xs.length,csG⟩,((Cf c (Dy c).length).fin+16 - 1) / 16⟩:=⟨w,by
  have h4:=hw74.pick [3,4,7,8] rfl rfl
  rw[hw74.size]
  unfold layS Sl.val
  simp only[hlp,hlc]
  exact h4⟩
 refine⟨_, ?_,hL,hz ▸ lay_ok hfine hL hO,hz ▸ hO,AO hw74⟩
 simp only[IA.arr,hlp,hlc]
theorem Zdi(w:World)(c:Aj)(hc:Aj.ok Any w c):Calls Tryd.prog 39 #[.agg (Aj.arr c)] w fun e w'=>e = .returned (.tuple #[.int .i64 (KG c),.int .i64 (errOf c)])∧CP (fun _=>False) w w':=by
 obtain⟨z,hz⟩:∃ z,z=w.heap.size:=⟨_,rfl⟩
 refine CE (args:=[.agg (Aj.arr c)]) 19 ⟨w,z,[(Ak w)]⟩ Tryd.func39 rfl (by kernel_rfl) (by kernel_rfl) (Ep hz) ?_
 refine DC [0] [(0,.agg (Aj.arr c))] ?_
 refine q_c 6 1 [] [[o0,o0,o0],[(an 7 1)]] [Qb z,Qb z,Qb z,Qb z,Qb z,Qb z,Qb z] [(1,pt z),(7,.agg (Aj.arr c))] ⟨w,z+1,[(Ak w),(bk z (Aj.arr c) 26)]⟩ rfl ⟨rfl,rfl,rfl,rfl,rfl,rfl,rfl,Ae⟩ ?_
 refine l_call [] [] 64 #[.agg (Aj.arr c)] (some 8) Ae ?_
 intro w1 hw1
 by_cases hok2:EK c=true
 ·refine(rof_yes w1 c (hc.ext (hw1.ext rfl) (fun _ h=>h)) hok2).mono ?_
  rintro e w3 ⟨lw3,rfl,hIw3,hLw3,hOw3,hkw3⟩
  have hfw3:=Wp hok2;have hknw3:=hfw3.kn;have hEw3:=hIw3.fin;have hEbw3:=SA hfw3 _ (Nat.le_refl _);have hpnw3:=hfw3.pn
  rw[hw1.size]at hLw3 hOw3
  have hnw3:z+1≤w3.heap.size:=Fg hw1 hkw3
  refine⟨_,_,rfl,hw1.Qi hkw3, ?_⟩
  refine EY 15 0 [0] [[o0,o0,o0,o0,(an 4 3),o0],[o0,o0],[o0,(a1 3),o0,(a1 1),(ov (i6 (lw3.End - c.Kernel))),o0,o0]] [Qb w3.heap.size,Qb w3.heap.size,Qb w3.heap.size,Qb w3.heap.size,Qb w3.heap.size,Qb z,Wr ((lw3.End:Int) - c.Kernel) (lw3.End - c.Kernel)] [(2,i6 (lw3.End - c.Kernel)),(3,i6 0)] ⟨w,w3.heap.size+1,[(Ak w),(bk z (Aj.arr c) 26),(mid (z+1) w3),(.blk w3.heap.size (.cells (IA.arr lw3) 79 (0,0)) true)]⟩ rfl ⟨rfl,rfl,rfl,rfl,rfl,rfl,BQ,Ae⟩ ?_
  refine AA [] [] (.tuple #[i6 (lw3.End - c.Kernel),i6 0]) Ae ?_
  intro w4 hw4
  refine⟨?_,AO hw4⟩
  unfold KG errOf;rw[if_pos hok2,if_pos hok2];rw[←hEw3]
 refine(rof_no w1 c (hc.ext (hw1.ext rfl) (fun _ h=>h)) (Bool.eq_false_iff.2 hok2)).mono ?_
 rintro e w5 ⟨rfl,hkw5⟩
 have hnw5:z+1≤w5.heap.size:=Fg hw1 hkw5
 refine⟨_,_,rfl,hw1.keeps hkw5, ?_⟩
 refine EY 13 0 [1] [[o0,o0,o0,o0,(an 4 2),o0],[o0,o0],[o0,o0,o0]] [Qb w5.heap.size,Qb w5.heap.size,Qb w5.heap.size,Qb w5.heap.size] [(2,i6 0),(3,i6 150)] ⟨w,w5.heap.size+1,[(Ak w),(bk z (Aj.arr c) 26),(.blk w5.heap.size (.cells #[i6 0,.slice none 0 0,.slice none 0 0,i6 0] 79 (0,0)) true)]⟩ rfl ⟨rfl,rfl,rfl,rfl,Ae⟩ ?_
 refine AA [] [] (.tuple #[i6 0,i6 150]) Ae ?_
 intro w6 hw6
 refine⟨?_,AO hw6⟩
 unfold KG errOf;rw[if_neg hok2,if_neg hok2]
end Go.Proofs.YtnjhekfgmbpmlaaDoor.Ly
namespace Go.Proofs.YtnjhekfgmbpmlaaDoor.Ad
open Go Go.Proofs.YtnjhekfgmbpmlaaDoor.Eng Go.Proofs.YtnjhekfgmbpmlaaDoor.Mem Go.Proofs.YtnjhekfgmbpmlaaDoor.Ly
set_option linter.unusedSimpArgs false
set_option linter.unusedVariables false
set_option maxRecDepth 100000
def OQ(x:AL):Bool:=win x.Kind 1 2&&win x.Words 1 16&&Eu x
theorem X8{c:Aj}{h:Nat}{x:AL}(e0:MF c h=x)(hA:OQ x=false):Dx c h=⟨415,⟨(h:Int), -1⟩⟩:=by
 unfold Dx;rw[e0,show(win x.Kind 1 2&&win x.Words 1 16&&Eu x)=false from hA];simp[Bc,Ah,Bg]
theorem chan_b{c:Aj}{h:Nat}{x:AL}(e0:MF c h=x)(hA:OQ x=true)(hS:¬ (II c h:Int)=1):Dx c h=⟨416,⟨(h:Int), -1⟩⟩:=by
 unfold Dx;rw[e0,show(win x.Kind 1 2&&win x.Words 1 16&&Eu x)=true from hA,decide_eq_false (by omega)];simp[Bc,Ah,Bg]
theorem chan_c{c:Aj}{h:Nat}{x:AL}(e0:MF c h=x)(hA:OQ x=true)(hS:(II c h:Int)=1)(hD:win (BB c h:Nat) 1 (AB x)=false):Dx c h=⟨417,⟨(h:Int), -1⟩⟩:=by
 unfold Dx;rw[e0,show(win x.Kind 1 2&&win x.Words 1 16&&Eu x)=true from hA,decide_eq_true (by omega),hD];simp[Bc,Ah,Bg]
theorem chan_d{c:Aj}{h:Nat}{x:AL}(e0:MF c h=x)(hA:OQ x=true)(hS:(II c h:Int)=1)(hD:win (BB c h:Nat) 1 (AB x)=true):Dx c h=Bg:=by
 unfold Dx;rw[e0,show(win x.Kind 1 2&&win x.Words 1 16&&Eu x)=true from hA,decide_eq_true (by omega),hD];simp[Bc,Ah,Bg]
section
variable (z:Nat)
abbrev RG:=(5,pt (z+1))
end
theorem ZaS(w:World)(c:Aj)(hc:Aj.ok Any w c)(h:Nat)(hh:h<c.Ag.xs.length)(hm:c.Aa.xs.length≤1024)(hq:∀ p,p<c.Aa.xs.length→(gd c.Aa.xs p).Am.xs.length≤1024):Calls Tryd.prog 24 #[.agg (Aj.arr c),.int .i64 (h:Int)] w fun e w'=>e = .returned (.int .i64 (Dx c h).e)∧CP (fun _=>False) w w':=by
 obtain⟨z,hz⟩:∃ z,z=w.heap.size:=⟨_,rfl⟩
 refine CE (args:=[.agg (Aj.arr c),Ac h]) 68 ⟨w,z,[(Ak w)]⟩ Tryd.func24 rfl (by kernel_rfl) (by kernel_rfl) (Ep hz) ?_
 have hpl:=hc.Ag.1.len
 refine DC [0,1] [(0,.agg (Aj.arr c)),(1,Ac h)] ?_
 refine q_c 5 0 [] [[o0,o0]] [] [(1,Ac h),(2,pt z)] ⟨w,z+1,[(Ak w),(bk z (Aj.arr c) 26)]⟩ rfl Ae ?_
 obtain⟨b1,o2,ha3,hF5,hc4⟩:=(hc.Ag).1.all (show 0<c.Ag.xs.length by omega)
 replace ha3:c.Ag.a=some ⟨b1,o2,none⟩:=ha3
 have hc6:=hc4 h (show h<c.Ag.xs.length by omega)
 have he7:=(hc.Ag).2 h (show h<c.Ag.xs.length by omega)
 obtain⟨y8,hy8⟩:∃ y_,y_=gd c.Ag.xs h:=⟨_,rfl⟩
 rw[←hy8]at he7 hc6
 have e0:MF c h=y8:=hy8.symm
 refine q_c 4 0 [] [[o0,(DN 1 b1 o2 c.Ag),o0,(oi h),(ol 0 (AL.arr y8)),o0,(an 3 2)]] [Qb z,Dh b1 o2 c.Ag,Ci h,h<c.Ag.xs.length,BN,Fa w b1 (o2+h*3) (AL.arr y8),Qb (z+1),Qb (z+1),Qb (z+1)] [(1,Ac h),(2,pt z),(RG z)] ⟨w,z+2,[(Ak w),(bk z (Aj.arr c) 26),(bk (z+1) (AL.arr y8) 55)]⟩ rfl ⟨rfl,Df ha3,rfl,(by omega),rfl,Dt hc6,rfl,rfl,rfl,Ae⟩ ?_
 by_cases h9:(y8.Kind:Int)=2
 ·refine Az 6 10 [] [[o0,(a1 2),oT,o0],[o0,o0,o0,o0,o0,o0,(a1 2)]] [Qb (z+1),ET y8.Kind 2,Qb (z+1)] [(1,Ac h),(2,pt z),(RG z),(6,.bool true),(24,.bool false),(26,i6 y8.Words)] rfl ⟨rfl,et,rfl,Ae⟩ ?_
  refine Bf 32 #[i6 y8.Words,i6 1,i6 16] (some 27) (.bool (win y8.Words 1 16)) (fun w10 hw10=>G7 w10 y8.Words 1 16) (fun n11 (hn12:z+2≤n11) => ?_)
  refine Dc [1,2,5,6,24,27] [(1,Ac h),(2,pt z),(RG z),(6,.bool true),(24,.bool false),(27,.bool (win y8.Words 1 16))] ?_
  by_cases h13:(win y8.Words 1 16)=true
  ·have hd14:=EE h13
   refine BP 8 4 [0] [[(ov (.bool false)),o0],[o0,o0,o0,(a1 2)]] [Value.bool (!(win y8.Words 1 16))=Value.bool false,Qb (z+1)] [(1,Ac h),(2,pt z),(RG z),(6,.bool true),(31,.bool true),(33,i6 y8.Dn)] rfl ⟨by simp[h13],rfl,Ae⟩ ?_
   refine Bf 32 #[i6 y8.Dn,i6 1,i6 8] (some 34) (.bool (win y8.Dn 1 8)) (fun w15 hw15=>G7 w15 y8.Dn 1 8) (fun n16 (hn17:n11≤n16) => ?_)
   refine Dc [1,2,5,6,31,34] [(1,Ac h),(2,pt z),(RG z),(6,.bool true),(31,.bool true),(34,.bool (win y8.Dn 1 8))] ?_
   by_cases h18:(win y8.Dn 1 8)=true
   ·have hd19:=EE h18
    refine BP 7 2 [0] [[(ov (.bool false)),o0,o0,o0,o0,o0,o0,o0],[(an 7 1),o0]] [Value.bool (!(win y8.Dn 1 8))=Value.bool false,Qb z,Qb z,Qb z,Qb z,Qb z,Qb z,Qb z] [(6,.bool true),(47,.agg (Aj.arr c)),(48,Ac h)] rfl ⟨by simp[h18],rfl,rfl,rfl,rfl,rfl,rfl,rfl,Ae⟩ ?_
    refine Bf 36 #[.agg (Aj.arr c),Ac h] (some 49) (.tuple #[i6 ((II c (h:Int):Nat):Int),i6 ((BB c (h:Int):Nat):Int)]) (fun w20 hw20=>Oq w20 c (hc.ext (hw20.ext rfl) (fun _ h=>h)) (h:Int) hm hq) (fun n21 (hn22:n16≤n21) => ?_)
    refine BP 5 0 [] [[o0,o0,o0,o0,o0]] [] [(6,.bool true),(7,i6 ((II c (h:Int):Nat):Int)),(8,i6 ((BB c (h:Int):Nat):Int))] rfl Ae ?_
    by_cases h23:(((II c (h:Int):Nat):Int):Int)=1
    ·refine Az 6 0 [0] [[o0,oF,o0]] [NF ((II c (h:Int):Nat):Int) 1] [(6,.bool true),(8,i6 ((BB c (h:Int):Nat):Int)),(52,.bool false)] rfl ⟨nf,Ae⟩ ?_
     by_cases h24:(((BB c (h:Int):Nat):Int):Int)=1
     ·refine Az 16 0 [0,0] [[o0,o0,o0,oF,o0,o0],[o0,o0,o0,o0,o0],[o0]] [NF ((BB c (h:Int):Nat):Int) 1] [(4,i6 0)] rfl ⟨nf,Ae⟩ ?_
      refine AA [] [] (i6 0) Ae ?_
      intro w25 hw25
      have hk9:win y8.Kind 1 2=true:=(by unfold win;simp;omega)
      have hw9:win y8.Words 1 16=true:=h13
      have hd9:Eu y8=true:=(by unfold Eu;rw[if_pos h9];exact h18)
      have hm9:AB y8=1:=(by unfold AB;rw[if_pos h9])
      have hq:Dx c h=_:=chan_d e0 (by unfold OQ;simp[hk9,hw9,hd9]) h23 (by rw[hm9];first | assumption | (unfold win;simp;omega) | simpa using h24)
      exact⟨congrArg (fun t:Ar=>Ending.returned (i6 t.e)) hq.symm,AO hw25⟩
     refine Az 12 0 [1,1] [[o0,o0,o0,oT,o0,o0],[o0]] [NT ((BB c (h:Int):Nat):Int) 1] [(4,i6 417)] rfl ⟨nt,Ae⟩ ?_
     refine AA [] [] (i6 417) Ae ?_
     intro w26 hw26
     have hk9:win y8.Kind 1 2=true:=(by unfold win;simp;omega)
     have hw9:win y8.Words 1 16=true:=h13
     have hd9:Eu y8=true:=(by unfold Eu;rw[if_pos h9];exact h18)
     have hm9:AB y8=1:=(by unfold AB;rw[if_pos h9])
     have hq:Dx c h=_:=chan_c e0 (by unfold OQ;simp[hk9,hw9,hd9]) h23 (by rw[hm9];first | assumption | (unfold win;simp;omega) | simpa using h24)
     exact⟨congrArg (fun t:Ar=>Ending.returned (i6 t.e)) hq.symm,AO hw26⟩
    refine Az 9 0 [1] [[o0,oT,o0],[o0]] [NT ((II c (h:Int):Nat):Int) 1] [(4,i6 416)] rfl ⟨nt,Ae⟩ ?_
    refine AA [] [] (i6 416) Ae ?_
    intro w27 hw27
    have hk9:win y8.Kind 1 2=true:=(by unfold win;simp;omega)
    have hw9:win y8.Words 1 16=true:=h13
    have hd9:Eu y8=true:=(by unfold Eu;rw[if_pos h9];exact h18)
    have hq:Dx c h=_:=chan_b e0 (by unfold OQ;simp[hk9,hw9,hd9]) h23
    exact⟨congrArg (fun t:Ar=>Ending.returned (i6 t.e)) hq.symm,AO hw27⟩
   have hd28:=FQ h18
   refine BP 8 0 [1] [[(ov (.bool true)),o0,o0,o0],[o0]] [Value.bool (!(win y8.Dn 1 8))=Value.bool true] [(4,i6 415)] rfl ⟨by simp[h18],Ae⟩ ?_
   refine AA [] [] (i6 415) Ae ?_
   intro w29 hw29
   have hk9:win y8.Kind 1 2=true:=(by unfold win;simp;omega)
   have hw9:win y8.Words 1 16=true:=h13
   have hd9:Eu y8=false:=(by unfold Eu;rw[if_pos h9];simpa using h18)
   have hq:Dx c h=_:=X8 e0 (by unfold OQ;simp[hk9,hw9,hd9])
   exact⟨congrArg (fun t:Ar=>Ending.returned (i6 t.e)) hq.symm,AO hw29⟩
  have hd30:=FQ h13
  refine BP 8 0 [1] [[(ov (.bool true)),o0],[o0]] [Value.bool (!(win y8.Words 1 16))=Value.bool true] [(4,i6 415)] rfl ⟨by simp[h13],Ae⟩ ?_
  refine AA [] [] (i6 415) Ae ?_
  intro w31 hw31
  have hk9:win y8.Kind 1 2=true:=(by unfold win;simp;omega)
  have hw9:win y8.Words 1 16=false:=(by simpa using h13)
  have hq:Dx c h=_:=X8 e0 (by unfold OQ;simp[hk9,hw9])
  exact⟨congrArg (fun t:Ar=>Ending.returned (i6 t.e)) hq.symm,AO hw31⟩
 refine Az 5 0 [] [[o0,(a1 2),oF,o0]] [Qb (z+1),EF y8.Kind 2] [(1,Ac h),(2,pt z),(RG z),(6,.bool false)] rfl ⟨rfl,ef,Ae⟩ ?_
 by_cases h32:(y8.Kind:Int)=1
 ·refine Az 1 10 [] [[o0,o0,o0,o0,(a1 2),oF,o0,o0,o0,(a1 2)]] [Qb (z+1),NF y8.Kind 1,Qb (z+1)] [(1,Ac h),(2,pt z),(RG z),(6,.bool false),(24,.bool false),(26,i6 y8.Words)] rfl ⟨rfl,nf,rfl,Ae⟩ ?_
  refine Bf 32 #[i6 y8.Words,i6 1,i6 16] (some 27) (.bool (win y8.Words 1 16)) (fun w33 hw33=>G7 w33 y8.Words 1 16) (fun n34 (hn35:z+2≤n34) => ?_)
  refine Dc [1,2,5,6,24,27] [(1,Ac h),(2,pt z),(RG z),(6,.bool false),(24,.bool false),(27,.bool (win y8.Words 1 16))] ?_
  by_cases h36:(win y8.Words 1 16)=true
  ·have hd37:=EE h36
   refine BP 7 0 [0] [[(ov (.bool false)),o0]] [Value.bool (!(win y8.Words 1 16))=Value.bool false] [(1,Ac h),(2,pt z),(RG z),(6,.bool false),(29,.bool false)] rfl ⟨by simp[h36],Ae⟩ ?_
   by_cases h38:(y8.Dn:Int)=0
   ·refine Az 8 2 [0] [[o0,o0,o0,o0,o0,o0,o0,o0,(a1 2),oF,o0,o0],[(an 7 1),o0]] [Qb (z+1),NF y8.Dn 0,Qb z,Qb z,Qb z,Qb z,Qb z,Qb z,Qb z] [(6,.bool false),(47,.agg (Aj.arr c)),(48,Ac h)] rfl ⟨rfl,nf,rfl,rfl,rfl,rfl,rfl,rfl,rfl,Ae⟩ ?_
    refine Bf 36 #[.agg (Aj.arr c),Ac h] (some 49) (.tuple #[i6 ((II c (h:Int):Nat):Int),i6 ((BB c (h:Int):Nat):Int)]) (fun w39 hw39=>Oq w39 c (hc.ext (hw39.ext rfl) (fun _ h=>h)) (h:Int) hm hq) (fun n40 (hn41:n34≤n40) => ?_)
    refine BP 5 0 [] [[o0,o0,o0,o0,o0]] [] [(6,.bool false),(7,i6 ((II c (h:Int):Nat):Int)),(8,i6 ((BB c (h:Int):Nat):Int))] rfl Ae ?_
    by_cases h42:(((II c (h:Int):Nat):Int):Int)=1
    ·refine Az 11 4 [0,0] [[o0,oF,o0],[o0,o0,o0,o0],[o0,o0,o0,o0]] [NF ((II c (h:Int):Nat):Int) 1] [(63,.bool true),(64,i6 ((BB c (h:Int):Nat):Int))] rfl ⟨nf,Ae⟩ ?_
     refine Bf 32 #[i6 ((BB c (h:Int):Nat):Int),i6 1,i6 4] (some 65) (.bool (win ((BB c (h:Int):Nat):Int) 1 4)) (fun w43 hw43=>G7 w43 ((BB c (h:Int):Nat):Int) 1 4) (fun n44 (hn45:n40≤n44) => ?_)
     refine Dc [63,65] [(63,.bool true),(65,.bool (win ((BB c (h:Int):Nat):Int) 1 4))] ?_
     by_cases h46:(win ((BB c (h:Int):Nat):Int) 1 4)=true
     ·have hd47:=EE h46
      refine BP 11 0 [0] [[(ov (.bool false)),o0,o0],[o0]] [Value.bool (!(win ((BB c (h:Int):Nat):Int) 1 4))=Value.bool false] [(4,i6 0)] rfl ⟨by simp[h46],Ae⟩ ?_
      refine AA [] [] (i6 0) Ae ?_
      intro w48 hw48
      have hk9:win y8.Kind 1 2=true:=(by unfold win;simp;omega)
      have hw9:win y8.Words 1 16=true:=h36
      have hd9:Eu y8=true:=(by unfold Eu;rw[if_neg h9];exact decide_eq_true h38)
      have hm9:AB y8=4:=(by unfold AB;rw[if_neg h9])
      have hq:Dx c h=_:=chan_d e0 (by unfold OQ;simp[hk9,hw9,hd9]) h42 (by rw[hm9];first | assumption | (unfold win;simp;omega) | simpa using h46)
      exact⟨congrArg (fun t:Ar=>Ending.returned (i6 t.e)) hq.symm,AO hw48⟩
     have hd49:=FQ h46
     refine BP 8 0 [1] [[(ov (.bool true)),o0,o0],[o0]] [Value.bool (!(win ((BB c (h:Int):Nat):Int) 1 4))=Value.bool true] [(4,i6 417)] rfl ⟨by simp[h46],Ae⟩ ?_
     refine AA [] [] (i6 417) Ae ?_
     intro w50 hw50
     have hk9:win y8.Kind 1 2=true:=(by unfold win;simp;omega)
     have hw9:win y8.Words 1 16=true:=h36
     have hd9:Eu y8=true:=(by unfold Eu;rw[if_neg h9];exact decide_eq_true h38)
     have hm9:AB y8=4:=(by unfold AB;rw[if_neg h9])
     have hq:Dx c h=_:=chan_c e0 (by unfold OQ;simp[hk9,hw9,hd9]) h42 (by rw[hm9];first | assumption | (unfold win;simp;omega) | simpa using h46)
     exact⟨congrArg (fun t:Ar=>Ending.returned (i6 t.e)) hq.symm,AO hw50⟩
    refine Az 9 0 [1] [[o0,oT,o0],[o0]] [NT ((II c (h:Int):Nat):Int) 1] [(4,i6 416)] rfl ⟨nt,Ae⟩ ?_
    refine AA [] [] (i6 416) Ae ?_
    intro w51 hw51
    have hk9:win y8.Kind 1 2=true:=(by unfold win;simp;omega)
    have hw9:win y8.Words 1 16=true:=h36
    have hd9:Eu y8=true:=(by unfold Eu;rw[if_neg h9];exact decide_eq_true h38)
    have hq:Dx c h=_:=chan_b e0 (by unfold OQ;simp[hk9,hw9,hd9]) h42
    exact⟨congrArg (fun t:Ar=>Ending.returned (i6 t.e)) hq.symm,AO hw51⟩
   refine Az 9 0 [1] [[o0,o0,o0,o0,o0,o0,o0,o0,(a1 2),oT,o0,o0],[o0]] [Qb (z+1),NT y8.Dn 0] [(4,i6 415)] rfl ⟨rfl,nt,Ae⟩ ?_
   refine AA [] [] (i6 415) Ae ?_
   intro w52 hw52
   have hk9:win y8.Kind 1 2=true:=(by unfold win;simp;omega)
   have hw9:win y8.Words 1 16=true:=h36
   have hd9:Eu y8=false:=(by unfold Eu;rw[if_neg h9];exact decide_eq_false h38)
   have hq:Dx c h=_:=X8 e0 (by unfold OQ;simp[hk9,hw9,hd9])
   exact⟨congrArg (fun t:Ar=>Ending.returned (i6 t.e)) hq.symm,AO hw52⟩
  have hd53:=FQ h36
  refine BP 8 0 [1] [[(ov (.bool true)),o0],[o0]] [Value.bool (!(win y8.Words 1 16))=Value.bool true] [(4,i6 415)] rfl ⟨by simp[h36],Ae⟩ ?_
  refine AA [] [] (i6 415) Ae ?_
  intro w54 hw54
  have hk9:win y8.Kind 1 2=true:=(by unfold win;simp;omega)
  have hw9:win y8.Words 1 16=false:=(by simpa using h36)
  have hq:Dx c h=_:=X8 e0 (by unfold OQ;simp[hk9,hw9])
  exact⟨congrArg (fun t:Ar=>Ending.returned (i6 t.e)) hq.symm,AO hw54⟩
 refine Az 9 0 [1] [[o0,o0,o0,o0,(a1 2),oT,o0,o0,o0],[o0]] [Qb (z+1),NT y8.Kind 1] [(4,i6 415)] rfl ⟨rfl,nt,Ae⟩ ?_
 refine AA [] [] (i6 415) Ae ?_
 intro w55 hw55
 have hk9:win y8.Kind 1 2=false:=(by unfold win;simp;omega)
 have hq:Dx c h=_:=X8 e0 (by unfold OQ;simp[hk9])
 exact⟨congrArg (fun t:Ar=>Ending.returned (i6 t.e)) hq.symm,AO hw55⟩
section
variable (n15 k:Nat)(n z:Nat)(y24:Au)(c:Aj)(w:World)
abbrev Zcl:=bk (n15+1) #[(Ac k),Ac n] 34
abbrev qwuf_1:=bk (z+1) #[(Ac k),Ac n] 34
abbrev V7:=bk (z+1) #[i6 0,i6 0] 34
abbrev Zcs:=bk n15 (Au.arr y24) 44
abbrev RI:=bk z (Aj.arr c) 26
abbrev PP:=(9,pt (n15+1))
abbrev Gq:=(5,pt (z+1))
abbrev ML:=(6,i6 (sumW (ED c k).xs n))
abbrev PV:=(8,pt n15)
abbrev SE:=[(Ak w),(RI z c),(qwuf_1 k n z),(Zcs n15 y24),(Zcl n15 k n)]
abbrev Wi:=[(Ak w),(RI z c),(V7 z),(Zcs n15 y24),(Zcl n15 k n)]
end
theorem ZcZ(w:World)(c:Aj)(hc:Aj.ok Any w c)(k:Nat)(hk:k<c.Aq.xs.length):Calls Tryd.prog 26 #[.agg (Aj.arr c),.int .i64 (k:Int)] w fun e w'=>e = .returned (.tuple #[.int .i64 (Em c k).e,.agg #[.int .i64 (Em c k).Ai.First,.int .i64 (Em c k).Ai.Second]])∧CP (fun _=>False) w w':=by
 obtain⟨z,hz⟩:∃ z,z=w.heap.size:=⟨_,rfl⟩
 refine CE (args:=[.agg (Aj.arr c),Ac k]) 84 ⟨w,z,[(Ak w)]⟩ Tryd.func26 rfl (by kernel_rfl) (by kernel_rfl) (Ep hz) ?_
 have hpl:=hc.Aq.1.len;have hpp:=hc.Aa.1.len
 refine DC [0,1] [(0,.agg (Aj.arr c)),(1,Ac k)] ?_
 refine q_c 6 0 [] [[o0,o0,o0]] [] [(1,Ac k),(2,pt z),(Gq z)] ⟨w,z+2,[(Ak w),(RI z c),(V7 z)]⟩ rfl Ae ?_
 obtain⟨b1,o2,ha3,hF5,hc4⟩:=(hc.Aq).1.all (show 0<c.Aq.xs.length by omega)
 replace ha3:c.Aq.a=some ⟨b1,o2,none⟩:=ha3
 have hc6:=hc4 k (show k<c.Aq.xs.length by omega)
 have he7:=(hc.Aq).2 k (show k<c.Aq.xs.length by omega)
 obtain⟨y8,hy8⟩:∃ y_,y_=gd c.Aq.xs k:=⟨_,rfl⟩
 rw[←hy8]at he7 hc6
 have hley8:y8.xs.length=(gd c.Aq.xs k).xs.length:=(by rw[hy8]);have hyly8:=he7.1.len;have eCy8:ED c k=y8:=hy8.symm
 refine Az 1 6 [] [[o0,(DN 1 b1 o2 c.Aq),o0,(oi k),(oa [.via 0 (.slice y8.a y8.xs.length y8.cap)]),o0]] [Qb z,Dh b1 o2 c.Aq,Ci k,k<c.Aq.xs.length,BN,Old w b1 (o2+k) (.slice y8.a y8.xs.length y8.cap)] [(1,Ac k),(2,pt z),(Gq z),(15,Ac y8.xs.length)] rfl ⟨rfl,Df ha3,rfl,(by omega),rfl,A7 (hc6 0 _ rfl),Ae⟩ ?_
 refine Bf 32 #[(Ac y8.xs.length),i6 1,i6 16] (some 16) (.bool (win (y8.xs.length:Int) 1 16)) (fun w9 hw9=>G7 w9 (y8.xs.length:Int) 1 16) (fun n10 (hn11:z+2≤n10) => ?_)
 refine Dc [1,2,5,16] [(1,Ac k),(2,pt z),(Gq z),(16,.bool (win (y8.xs.length:Int) 1 16))] ?_
 by_cases h12:(win (y8.xs.length:Int) 1 16)=true
 ·have hd13:=EE h12
  refine BP 15 0 [0] [[(ov (.bool false))],[o0],[o0]] [Value.bool (!(win (y8.xs.length:Int) 1 16))=Value.bool false] [(1,Ac k),(2,pt z),(Gq z),(6,i6 0),(7,i6 0)] rfl ⟨by simp[h12],Ae⟩ ?_
  refine Di (fun m a w'=>∃ (n15:Nat) (n:Nat),m=(gd c.Aq.xs k).xs.length - n∧n10≤n15∧(n≤(gd c.Aq.xs k).xs.length)∧(∀ a,a<n→Gf c k a=Bg)∧(0≤sumW (ED c k).xs n∧sumW (ED c k).xs n≤n*32768)∧St 84 [(1,Ac k),(2,pt z),(Gq z),(ML k n c),(7,Ac n)] [] ⟨w,n15,[(Ak w),(RI z c),(V7 z)]⟩ a w') ((gd c.Aq.xs k).xs.length - 0) ?_ ?_
  ·intro a w' hs;exact⟨n10,0,rfl,Nat.le_refl _,Nat.zero_le _,fun i hi=>absurd hi (Nat.not_lt_zero i),by simp[sumW],hs⟩
  rintro m a w' ⟨n15,n,rfl,hn14,hkn,hf,hsu,hs⟩
  refine(?_:G Tryd.prog 84 [(1,Ac k),(2,pt z),(Gq z),(ML k n c),(7,Ac n)] [] ⟨w,n15,[(Ak w),(RI z c),(V7 z)]⟩ _ _ _) a w' hs
  clear hs a w'
  have hwc:=EE h12
  refine Ce <| Ce ?_
  by_cases h16:(n:Int)<(y8.xs.length:Int)
  ·refine Az 9 0 [1] [[o0,o0,(DN 1 b1 o2 c.Aq),o0,(oi k),(oa [.via 0 (.slice y8.a y8.xs.length y8.cap)]),o0,oT]] [Qb z,Dh b1 o2 c.Aq,Ci k,k<c.Aq.xs.length,BN,Old w b1 (o2+k) (.slice y8.a y8.xs.length y8.cap),BT ((n:Int)<(y8.xs.length:Int))] [(1,Ac k),(2,pt z),(Gq z),(ML k n c),(7,Ac n),(27,.bool true)] rfl ⟨rfl,Df ha3,rfl,(by omega),rfl,A7 (hc6 0 _ rfl),bt,Ae⟩ ?_
   obtain⟨b17,o18,ha19,hF21,hc20⟩:=(he7).1.all (show 0<y8.xs.length by omega)
   replace ha19:y8.a=some ⟨b17,o18,none⟩:=ha19
   have hc22:=hc20 n (show n<y8.xs.length by omega)
   have he23:=(he7).2 n (show n<y8.xs.length by omega)
   obtain⟨y24,hy24⟩:∃ y_,y_=gd y8.xs n:=⟨_,rfl⟩
   rw[←hy24]at he23 hc22
   have e0y24:gd (ED c k).xs n=y24:=(by rw[hy24,eCy8])
   refine q_c 11 6 [] [[o0,(DN 1 b1 o2 c.Aq),o0,(oi k),⟨.auto [.via 0 (.slice y8.a y8.xs.length y8.cap)],some (.slice (some ⟨b17,o18,none⟩) y8.xs.length y8.cap)⟩,o0,(oi n),(ol 0 (Au.arr y24)),o0,(an 3 3)],[o0,o0,o0,o0,(an 2 4)],[o0,(a1 3),o0,(a1 1),o0,(ov (i6 ((c.Aa.xs.length:Int) - 1)))]] [Qb z,Dh b1 o2 c.Aq,Ci k,k<c.Aq.xs.length,BN,Old w b1 (o2+k) (.slice y8.a y8.xs.length y8.cap),Dh b17 o18 y8,Ci n,n<y8.xs.length,BN,Fa w b17 (o18+n*3) (Au.arr y24),Qb n15,Qb n15,Qb n15,Qb (n15+1),Qb (n15+1),Qb n15,Qb z,Wr ((c.Aa.xs.length:Int) - 1) ((c.Aa.xs.length:Int) - 1)] [(1,Ac k),(2,pt z),(Gq z),(ML k n c),(7,Ac n),(PV n15),(PP n15),(43,i6 y24.Partition),(47,i6 ((c.Aa.xs.length:Int) - 1))] ⟨w,n15+2,(Wi n15 k n z y24 c w)⟩ rfl ⟨rfl,Df ha3,rfl,(by omega),rfl,A7 (hc6 0 _ rfl),Df ha19,rfl,(by omega),rfl,Dt hc22,rfl,rfl,rfl,rfl,rfl,rfl,rfl,BQ,Ae⟩ ?_
   refine Bf 32 #[i6 y24.Partition,i6 (-1),i6 ((c.Aa.xs.length:Int) - 1)] (some 48) (.bool (win y24.Partition (-1) ((c.Aa.xs.length:Int) - 1))) (fun w25 hw25=>G7 w25 y24.Partition (-1) ((c.Aa.xs.length:Int) - 1)) (fun n26 (hn27:n15+2≤n26) => ?_)
   refine Dc [1,2,5,6,7,8,9,48] [(1,Ac k),(2,pt z),(Gq z),(ML k n c),(7,Ac n),(PV n15),(PP n15),(48,.bool (win y24.Partition (-1) ((c.Aa.xs.length:Int) - 1)))] ?_
   by_cases h28:(win y24.Partition (-1) ((c.Aa.xs.length:Int) - 1))=true
   ·have hd29:=EE h28
    refine BP 0 4 [] [[(ov (.bool false)),o0,o0,(a1 3)]] [Value.bool (!(win y24.Partition (-1) ((c.Aa.xs.length:Int) - 1)))=Value.bool false,Qb n15] [(1,Ac k),(2,pt z),(Gq z),(ML k n c),(7,Ac n),(PV n15),(PP n15),(50,.bool false),(52,i6 y24.Ba)] rfl ⟨by simp[h28],rfl,Ae⟩ ?_
    refine Bf 32 #[i6 y24.Ba,i6 1,i6 16384] (some 53) (.bool (win y24.Ba 1 16384)) (fun w30 hw30=>G7 w30 y24.Ba 1 16384) (fun n31 (hn32:n26≤n31) => ?_)
    refine Dc [1,2,5,6,7,8,9,50,53] [(1,Ac k),(2,pt z),(Gq z),(ML k n c),(7,Ac n),(PV n15),(PP n15),(50,.bool false),(53,.bool (win y24.Ba 1 16384))] ?_
    by_cases h33:(win y24.Ba 1 16384)=true
    ·have hd34:=EE h33
     refine BP 5 2 [0] [[(ov (.bool false)),o0,o0],[o0,(a1 3)]] [Value.bool (!(win y24.Ba 1 16384))=Value.bool false,Qb n15] [(1,Ac k),(2,pt z),(Gq z),(ML k n c),(7,Ac n),(PV n15),(PP n15),(59,i6 y24.AQ)] rfl ⟨by simp[h33],rfl,Ae⟩ ?_
     refine Bf 32 #[i6 y24.AQ,i6 82,i6 16384] (some 60) (.bool (win y24.AQ 82 16384)) (fun w35 hw35=>G7 w35 y24.AQ 82 16384) (fun n36 (hn37:n31≤n36) => ?_)
     refine Dc [1,2,5,6,7,8,9,60] [(1,Ac k),(2,pt z),(Gq z),(ML k n c),(7,Ac n),(PV n15),(PP n15),(60,.bool (win y24.AQ 82 16384))] ?_
     by_cases h38:(win y24.AQ 82 16384)=true
     ·have hd39:=EE h38
      refine BP 5 4 [0] [[(ov (.bool false)),o0],[(an 7 1),o0,o0,(a1 3)]] [Value.bool (!(win y24.AQ 82 16384))=Value.bool false,Qb z,Qb z,Qb z,Qb z,Qb z,Qb z,Qb z,Qb n15] [(1,Ac k),(2,pt z),(Gq z),(ML k n c),(7,Ac n),(PV n15),(PP n15),(64,.agg (Aj.arr c)),(65,Ac k),(67,i6 y24.Partition)] rfl ⟨by simp[h38],rfl,rfl,rfl,rfl,rfl,rfl,rfl,rfl,Ae⟩ ?_
      refine Bf 37 #[.agg (Aj.arr c),Ac k,i6 y24.Partition] (some 68) (.bool (Ii c k y24.Partition)) (fun w40 hw40=>ZbJ w40 c (hc.ext (hw40.ext rfl) (fun _ h=>h)) k hk y24.Partition (by have hpw:=EE h28;omega)) (fun n41 (hn42:n36≤n41) => ?_)
      refine BP 2 0 [] [[o0]] [] [(1,Ac k),(2,pt z),(Gq z),(ML k n c),(7,Ac n),(PV n15),(PP n15),(63,.bool (Ii c k y24.Partition))] rfl Ae ?_
      by_cases h43:(Ii c k y24.Partition)=true
      ·refine ZcB ?_ (congrArg Value.bool h43)
       refine Ce <| Eh 2 [0,1,2,3,4] (Wi n15 k n z y24 c w) rfl rfl ?_
       refine Dj [(0,(an 2 4)),(1,o0)] [5,69,4] [Qb (n15+1),Qb (n15+1)] [true,true,false] [(Gq z),(69,.agg #[(Ac k),Ac n]),(4,i6 422)] ⟨rfl,rfl,Ae⟩ ?_
       refine BC 2 ?_
       refine BH (an 2 2) [5,4] [Qb (z+1),Qb (z+1)] [(Gq z),(4,i6 422)] ⟨w,n41,(SE n15 k n z y24 c w)⟩ [] ⟨rfl,rfl,Ae⟩ (.inl rfl) ?_
       refine Es 3 [0,1,2,3,4] (SE n15 k n z y24 c w) rfl rfl ?_
       refine CU ?_
       refine BK [5,4] [(Gq z),(4,i6 422)] ?_
       refine IM <| KR <| AA [.at 2,.at 2] [Qb (z+1),Qb (z+1)] (.tuple #[i6 422,.agg #[(Ac k),Ac n]]) ⟨rfl,rfl,Ae⟩ ?_
       intro w44 hw44
       have hq:Em c k=⟨422,⟨(k:Int),(n:Int)⟩⟩:=(Wq (by dsimp only[ED];rw[←hley8];exact h12) hf (show n<(gd c.Aq.xs k).xs.length by omega) (by unfold Gf Ob;rw[e0y24];(try simp[Bc,Ah,Bg,h28,h33,h38,h43]))).trans (by unfold Gf Ob;rw[e0y24];(try simp[Bc,Ah,Bg,h28,h33,h38,h43]))
       exact⟨congrArg (fun t:Ar=>Ending.returned (.tuple #[i6 t.e,.agg #[i6 t.Ai.First,i6 t.Ai.Second]])) hq.symm,AO hw44⟩
      refine Az 10 0 [2] [[o0,o0,(a1 3),o0,(a1 3),(ov (i6 (y24.Ba+y24.AQ))),(ov (i6 ((sumW (ED c k).xs n)+(y24.Ba+y24.AQ)))),o0],[o0,(ov (i6 ((n+1:Nat):Int))),o0]] [Value.bool (Ii c k y24.Partition)=Value.bool false,Qb n15,Qb n15,Wr ((y24.Ba:Int)+y24.AQ) (y24.Ba+y24.AQ),Wr ((sumW (ED c k).xs n:Int)+(y24.Ba+y24.AQ)) ((sumW (ED c k).xs n)+(y24.Ba+y24.AQ)),Wr ((n:Int)+1) (((n+1:Nat):Int))] [(1,Ac k),(2,pt z),(Gq z),(6,i6 ((sumW (ED c k).xs n)+(y24.Ba+y24.AQ))),(7,i6 ((n+1:Nat):Int))] rfl ⟨(congrArg Value.bool (Bool.eq_false_iff.2 h43)),rfl,rfl,BQ,BQ,BQ,Ae⟩ ?_
      refine Cb [0,1,2] [(Ak w),(RI z c),(V7 z)] rfl rfl ?_
      have hcw:Gf c k n=Bg:=(by unfold Gf Ob;rw[e0y24];simp[Bc,Ah,Bg,h28,h33,h38,h43])
      have hbd:=WY hcw
      have eS:=Zbn (ED c k).xs n
      rw[e0y24]at hbd eS
      have hss:0≤sumW (ED c k).xs (n+1)∧sumW (ED c k).xs (n+1)≤((n+1:Nat):Int)*32768:=(by rw[eS];omega)
      refine BK [1,2,5,6,7] [(1,Ac k),(2,pt z),(Gq z),(6,i6 ((sumW (ED c k).xs n)+(y24.Ba+y24.AQ))),(7,i6 ((n+1:Nat):Int))] ?_
      refine BD (fun a w' hs=>⟨(gd c.Aq.xs k).xs.length - (n+1),by omega,n41,(n+1),rfl,by omega,by omega,Fh hf hcw,hss,(by(try dsimp only[Zcl,qwuf_1,V7,Zcs,RI,Gq,ML,SE]at hs ⊢);rw[eS];exact hs)⟩)
     have hd45:=FQ h38
     refine BP 4 0 [1] [[(ov (.bool true)),o0]] [Value.bool (!(win y24.AQ 82 16384))=Value.bool true] [(1,Ac k),(2,pt z),(Gq z),(ML k n c),(7,Ac n),(PV n15),(PP n15),(57,.bool true)] rfl ⟨by simp[h38],Ae⟩ ?_
     refine Eh 2 [0,1,2,3,4] (Wi n15 k n z y24 c w) rfl rfl ?_
     refine Dj [(0,(an 2 4)),(1,o0)] [5,62,4] [Qb (n15+1),Qb (n15+1)] [true,true,false] [(Gq z),(62,.agg #[(Ac k),Ac n]),(4,i6 420)] ⟨rfl,rfl,Ae⟩ ?_
     refine BC 2 ?_
     refine BH (an 2 2) [5,4] [Qb (z+1),Qb (z+1)] [(Gq z),(4,i6 420)] ⟨w,n36,(SE n15 k n z y24 c w)⟩ [] ⟨rfl,rfl,Ae⟩ (.inl rfl) ?_
     refine Es 3 [0,1,2,3,4] (SE n15 k n z y24 c w) rfl rfl ?_
     refine CU ?_
     refine BK [5,4] [(Gq z),(4,i6 420)] ?_
     refine IM <| KR <| AA [.at 2,.at 2] [Qb (z+1),Qb (z+1)] (.tuple #[i6 420,.agg #[(Ac k),Ac n]]) ⟨rfl,rfl,Ae⟩ ?_
     intro w46 hw46
     have hq:Em c k=⟨420,⟨(k:Int),(n:Int)⟩⟩:=(Wq (by dsimp only[ED];rw[←hley8];exact h12) hf (show n<(gd c.Aq.xs k).xs.length by omega) (by unfold Gf Ob;rw[e0y24];(try simp[Bc,Ah,Bg,h28,h33,h38]))).trans (by unfold Gf Ob;rw[e0y24];(try simp[Bc,Ah,Bg,h28,h33,h38]))
     exact⟨congrArg (fun t:Ar=>Ending.returned (.tuple #[i6 t.e,.agg #[i6 t.Ai.First,i6 t.Ai.Second]])) hq.symm,AO hw46⟩
    have hd47:=FQ h33
    refine BP 4 0 [1] [[(ov (.bool true)),o0,o0]] [Value.bool (!(win y24.Ba 1 16384))=Value.bool true] [(1,Ac k),(2,pt z),(Gq z),(ML k n c),(7,Ac n),(PV n15),(PP n15),(41,.bool true)] rfl ⟨by simp[h33],Ae⟩ ?_
    refine Eh 2 [0,1,2,3,4] (Wi n15 k n z y24 c w) rfl rfl ?_
    refine Dj [(0,(an 2 4)),(1,o0)] [5,56,4] [Qb (n15+1),Qb (n15+1)] [true,true,false] [(Gq z),(56,.agg #[(Ac k),Ac n]),(4,i6 419)] ⟨rfl,rfl,Ae⟩ ?_
    refine BC 2 ?_
    refine BH (an 2 2) [5,4] [Qb (z+1),Qb (z+1)] [(Gq z),(4,i6 419)] ⟨w,n31,(SE n15 k n z y24 c w)⟩ [] ⟨rfl,rfl,Ae⟩ (.inl rfl) ?_
    refine Es 3 [0,1,2,3,4] (SE n15 k n z y24 c w) rfl rfl ?_
    refine CU ?_
    refine BK [5,4] [(Gq z),(4,i6 419)] ?_
    refine IM <| KR <| AA [.at 2,.at 2] [Qb (z+1),Qb (z+1)] (.tuple #[i6 419,.agg #[(Ac k),Ac n]]) ⟨rfl,rfl,Ae⟩ ?_
    intro w48 hw48
    have hq:Em c k=⟨419,⟨(k:Int),(n:Int)⟩⟩:=(Wq (by dsimp only[ED];rw[←hley8];exact h12) hf (show n<(gd c.Aq.xs k).xs.length by omega) (by unfold Gf Ob;rw[e0y24];(try simp[Bc,Ah,Bg,h28,h33]))).trans (by unfold Gf Ob;rw[e0y24];(try simp[Bc,Ah,Bg,h28,h33]))
    exact⟨congrArg (fun t:Ar=>Ending.returned (.tuple #[i6 t.e,.agg #[i6 t.Ai.First,i6 t.Ai.Second]])) hq.symm,AO hw48⟩
   have hd49:=FQ h28
   refine BP 4 0 [1] [[(ov (.bool true)),o0,o0,o0]] [Value.bool (!(win y24.Partition (-1) ((c.Aa.xs.length:Int) - 1)))=Value.bool true] [(1,Ac k),(2,pt z),(Gq z),(ML k n c),(7,Ac n),(PV n15),(PP n15),(41,.bool true)] rfl ⟨by simp[h28],Ae⟩ ?_
   refine Eh 2 [0,1,2,3,4] (Wi n15 k n z y24 c w) rfl rfl ?_
   refine Dj [(0,(an 2 4)),(1,o0)] [5,56,4] [Qb (n15+1),Qb (n15+1)] [true,true,false] [(Gq z),(56,.agg #[(Ac k),Ac n]),(4,i6 419)] ⟨rfl,rfl,Ae⟩ ?_
   refine BC 2 ?_
   refine BH (an 2 2) [5,4] [Qb (z+1),Qb (z+1)] [(Gq z),(4,i6 419)] ⟨w,n26,(SE n15 k n z y24 c w)⟩ [] ⟨rfl,rfl,Ae⟩ (.inl rfl) ?_
   refine Es 3 [0,1,2,3,4] (SE n15 k n z y24 c w) rfl rfl ?_
   refine CU ?_
   refine BK [5,4] [(Gq z),(4,i6 419)] ?_
   refine IM <| KR <| AA [.at 2,.at 2] [Qb (z+1),Qb (z+1)] (.tuple #[i6 419,.agg #[(Ac k),Ac n]]) ⟨rfl,rfl,Ae⟩ ?_
   intro w50 hw50
   have hq:Em c k=⟨419,⟨(k:Int),(n:Int)⟩⟩:=(Wq (by dsimp only[ED];rw[←hley8];exact h12) hf (show n<(gd c.Aq.xs k).xs.length by omega) (by unfold Gf Ob;rw[e0y24];(try simp[Bc,Ah,Bg,h28]))).trans (by unfold Gf Ob;rw[e0y24];(try simp[Bc,Ah,Bg,h28]))
   exact⟨congrArg (fun t:Ar=>Ending.returned (.tuple #[i6 t.e,.agg #[i6 t.Ai.First,i6 t.Ai.Second]])) hq.symm,AO hw50⟩
  refine Az 11 0 [0] [[o0,o0,(DN 1 b1 o2 c.Aq),o0,(oi k),(oa [.via 0 (.slice y8.a y8.xs.length y8.cap)]),o0,oF]] [Qb z,Dh b1 o2 c.Aq,Ci k,k<c.Aq.xs.length,BN,Old w b1 (o2+k) (.slice y8.a y8.xs.length y8.cap),BF ((n:Int)<(y8.xs.length:Int))] [(1,Ac k),(2,pt z),(Gq z),(ML k n c),(7,Ac n),(27,.bool false)] rfl ⟨rfl,Df ha3,rfl,(by omega),rfl,A7 (hc6 0 _ rfl),bf,Ae⟩ ?_
  by_cases h51:(sumW (ED c k).xs n:Int)=c.CJ
  ·refine Az 11 0 [0] [[o0,o0,(a1 1),oF],[o0,o0,(an 2 2)]] [Qb z,NF (sumW (ED c k).xs n) c.CJ,Qb (z+1),Qb (z+1)] [(Gq z),(4,i6 0)] rfl ⟨rfl,nf,rfl,rfl,Ae⟩ ?_
   refine AA [.at 2,.at 2] [Qb (z+1),Qb (z+1)] (.tuple #[i6 0,.agg #[i6 0,i6 0]]) ⟨rfl,rfl,Ae⟩ ?_
   intro w52 hw52
   have hq:Em c k=⟨0,⟨0,0⟩⟩:=(YF (by dsimp only[ED];rw[←hley8];exact h12) hf (show n=(gd c.Aq.xs k).xs.length by omega)).trans (by first | rw[decide_eq_true (by assumption)];rfl | rw[decide_eq_false (by assumption)];rfl)
   exact⟨congrArg (fun t:Ar=>Ending.returned (.tuple #[i6 t.e,.agg #[i6 t.Ai.First,i6 t.Ai.Second]])) hq.symm,AO hw52⟩
  refine Az 6 1 [1] [[o0,o0,(a1 1),oT],[o0]] [Qb z,NT (sumW (ED c k).xs n) c.CJ] [(Gq z),(81,Ac k)] rfl ⟨rfl,nt,Ae⟩ ?_
  refine Bf 25 #[(Ac k)] (some 82) (.agg #[(Ac k),i6 (-1)]) (fun w53 hw53=>JZ w53 (k:Int)) (fun n54 (hn55:n15≤n54) => ?_)
  refine EY 3 0 [] [[o0,(an 2 2)]] [Qb (z+1),Qb (z+1)] [(Gq z),(4,i6 421)] ⟨w,n54,[(Ak w),(RI z c),(bk (z+1) #[(Ac k),i6 (-1)] 34)]⟩ rfl ⟨rfl,rfl,Ae⟩ ?_
  refine AA [.at 2,.at 2] [Qb (z+1),Qb (z+1)] (.tuple #[i6 421,.agg #[(Ac k),i6 (-1)]]) ⟨rfl,rfl,Ae⟩ ?_
  intro w56 hw56
  have hq:Em c k=⟨421,⟨(k:Int), -1⟩⟩:=(YF (by dsimp only[ED];rw[←hley8];exact h12) hf (show n=(gd c.Aq.xs k).xs.length by omega)).trans (by first | rw[decide_eq_true (by assumption)];rfl | rw[decide_eq_false (by assumption)];rfl)
  exact⟨congrArg (fun t:Ar=>Ending.returned (.tuple #[i6 t.e,.agg #[i6 t.Ai.First,i6 t.Ai.Second]])) hq.symm,AO hw56⟩
 have hd57:=FQ h12
 refine BP 5 1 [1] [[(ov (.bool true))],[o0]] [Value.bool (!(win (y8.xs.length:Int) 1 16))=Value.bool true] [(Gq z),(18,Ac k)] rfl ⟨by simp[h12],Ae⟩ ?_
 refine Bf 25 #[(Ac k)] (some 19) (.agg #[(Ac k),i6 (-1)]) (fun w58 hw58=>JZ w58 (k:Int)) (fun n59 (hn60:n10≤n59) => ?_)
 refine EY 3 0 [] [[o0,(an 2 2)]] [Qb (z+1),Qb (z+1)] [(Gq z),(4,i6 418)] ⟨w,n59,[(Ak w),(RI z c),(bk (z+1) #[(Ac k),i6 (-1)] 34)]⟩ rfl ⟨rfl,rfl,Ae⟩ ?_
 refine AA [.at 2,.at 2] [Qb (z+1),Qb (z+1)] (.tuple #[i6 418,.agg #[(Ac k),i6 (-1)]]) ⟨rfl,rfl,Ae⟩ ?_
 intro w61 hw61
 have hq:Em c k=⟨418,⟨(k:Int), -1⟩⟩:=Zdj (by dsimp only[ED];rw[←hley8];exact h12)
 exact⟨congrArg (fun t:Ar=>Ending.returned (.tuple #[i6 t.e,.agg #[i6 t.Ai.First,i6 t.Ai.Second]])) hq.symm,AO hw61⟩
section
variable (z:Nat)(c:Aj)
abbrev UW:=bk z (Aj.arr c) 26
end
theorem Zda(w:World)(c:Aj)(hc:Aj.ok Any w c)(hFr:1≤c.Frames∧c.Frames≤1024)(hpf:∀ q,q<c.Aa.xs.length→CX c q=Bg):Calls Tryd.prog 27 #[.agg (Aj.arr c)] w fun e w'=>e = .returned (.bool (FM c))∧CP (fun _=>False) w w':=by
 obtain⟨z,hz⟩:∃ z,z=w.heap.size:=⟨_,rfl⟩
 refine CE (args:=[.agg (Aj.arr c)]) 75 ⟨w,z,[(Ak w)]⟩ Tryd.func27 rfl (by kernel_rfl) (by kernel_rfl) (Ep hz) ?_
 have hpl:=hc.Aa.1.len;have hkk:(-9223372036854775808:Int)≤c.Kernel∧c.Kernel≤9223372036854775807:=hc.Kernel;have hrr:(-9223372036854775808:Int)≤c.Room∧c.Room≤9223372036854775807:=hc.Room
 refine DC [0] [(0,.agg (Aj.arr c))] ?_
 refine q_c 7 5 [] [[o0,o0],[o0,(a1 1),o0,(a1 1),(ov (i6 (c.Frames - 1)))]] [Qb z,Qb z,Wr ((c.Frames:Int) - 1) (c.Frames - 1)] [(1,pt z),(9,i6 c.Kernel),(12,i6 (c.Frames - 1))] ⟨w,z+1,[(Ak w),(UW z c)]⟩ rfl ⟨rfl,rfl,BQ,Ae⟩ ?_
 refine Bf 32 #[i6 c.Kernel,i6 0,i6 (c.Frames - 1)] (some 13) (.bool (win c.Kernel 0 (c.Frames - 1))) (fun w1 hw1=>G7 w1 c.Kernel 0 (c.Frames - 1)) (fun n2 (hn3:z+1≤n2) => ?_)
 refine Dc [1,13] [(1,pt z),(13,.bool (win c.Kernel 0 (c.Frames - 1)))] ?_
 by_cases h4:(win c.Kernel 0 (c.Frames - 1))=true
 ·have hd5:=EE h4
  refine BP 0 9 [] [[(ov (.bool false)),o0,o0,(a1 1),o0,(a1 1),o0,(a1 1),(ov (i6 (c.Frames - c.Kernel)))]] [Value.bool (!(win c.Kernel 0 (c.Frames - 1)))=Value.bool false,Qb z,Qb z,Qb z,Wr ((c.Frames:Int) - c.Kernel) (c.Frames - c.Kernel)] [(1,pt z),(15,.bool false),(17,i6 c.Room),(22,i6 (c.Frames - c.Kernel))] rfl ⟨by simp[h4],rfl,rfl,rfl,BQ,Ae⟩ ?_
  refine Bf 32 #[i6 c.Room,i6 1,i6 (c.Frames - c.Kernel)] (some 23) (.bool (win c.Room 1 (c.Frames - c.Kernel))) (fun w6 hw6=>G7 w6 c.Room 1 (c.Frames - c.Kernel)) (fun n7 (hn8:n2≤n7) => ?_)
  refine Dc [1,15,23] [(1,pt z),(15,.bool false),(23,.bool (win c.Room 1 (c.Frames - c.Kernel)))] ?_
  by_cases h9:(win c.Room 1 (c.Frames - c.Kernel))=true
  ·have hd10:=EE h9
   refine BP 11 0 [0] [[(ov (.bool false)),o0],[o0]] [Value.bool (!(win c.Room 1 (c.Frames - c.Kernel)))=Value.bool false] [(1,pt z),(3,i6 0)] rfl ⟨by simp[h9],Ae⟩ ?_
   refine Di (fun m a w'=>∃ (n12:Nat) (q:Nat),m=c.Aa.xs.length - q∧n7≤n12∧(q≤c.Aa.xs.length)∧(∀ a,a<q→SC c a=false)∧St 75 [(1,pt z),(3,Ac q)] [] ⟨w,n12,[(Ak w),(UW z c)]⟩ a w') (c.Aa.xs.length - 0) ?_ ?_
   ·intro a w' hs;exact⟨n7,0,rfl,Nat.le_refl _,Nat.zero_le _,fun i hi=>absurd hi (Nat.not_lt_zero i),hs⟩
   rintro m a w' ⟨n12,q,rfl,hn11,hkq,hg,hs⟩
   refine(?_:G Tryd.prog 75 [(1,pt z),(3,Ac q)] [] ⟨w,n12,[(Ak w),(UW z c)]⟩ _ _ _) a w' hs
   clear hs a w'
   have hw1:=EE h4
   have hw2:=EE h9
   refine Ce <| Ce ?_
   by_cases h13:(q:Int)<(c.Aa.xs.length:Int)
   ·refine Az 13 0 [1] [[o0,o0,(a1 1),o0,oT],[o0]] [Qb z,BT ((q:Int)<(c.Aa.xs.length:Int))] [(1,pt z),(3,Ac q),(4,i6 0)] rfl ⟨rfl,bt,Ae⟩ ?_
    refine Di (fun m a w'=>∃ (n15:Nat) (n:Nat),m=(gd c.Aa.xs q).Af.xs.length - n∧n12≤n15∧(n≤(gd c.Aa.xs q).Af.xs.length)∧(∀ a,a<n→Vp c q a=false)∧St 75 [(1,pt z),(3,Ac q),(4,Ac n)] [] ⟨w,n15,[(Ak w),(UW z c)]⟩ a w') ((gd c.Aa.xs q).Af.xs.length - 0) ?_ ?_
    ·intro a w' hs;exact⟨n12,0,rfl,Nat.le_refl _,Nat.zero_le _,fun i hi=>absurd hi (Nat.not_lt_zero i),hs⟩
    rintro m a w' ⟨n15,n,rfl,hn14,hkn,hh,hs⟩
    refine(?_:G Tryd.prog 75 [(1,pt z),(3,Ac q),(4,Ac n)] [] ⟨w,n15,[(Ak w),(UW z c)]⟩ _ _ _) a w' hs
    clear hs a w'
    refine Ce <| Ce ?_
    obtain⟨b16,o17,ha18,hF20,hc19⟩:=(hc.Aa).1.all (show 0<c.Aa.xs.length by omega)
    replace ha18:c.Aa.a=some ⟨b16,o17,none⟩:=ha18
    have hc21:=hc19 q (show q<c.Aa.xs.length by omega)
    have he22:=(hc.Aa).2 q (show q<c.Aa.xs.length by omega)
    obtain⟨y23,hy23⟩:∃ y_,y_=gd c.Aa.xs q:=⟨_,rfl⟩
    rw[←hy23]at he22 hc21
    have hley23:y23.Af.xs.length=(gd c.Aa.xs q).Af.xs.length:=(by rw[hy23]);have hyly23:=he22.Af.1.len
    by_cases h24:(n:Int)<(y23.Af.xs.length:Int)
    ·refine Az 9 0 [1] [[o0,o0,(DN 1 b16 o17 c.Aa),o0,(oi q),o0,(oa [.via 0 (.slice y23.Af.a y23.Af.xs.length y23.Af.cap)]),o0,oT]] [Qb z,Dh b16 o17 c.Aa,Ci q,q<c.Aa.xs.length,BN,Old w b16 (o17+q*8+6) (.slice y23.Af.a y23.Af.xs.length y23.Af.cap),BT ((n:Int)<(y23.Af.xs.length:Int))] [(1,pt z),(3,Ac q),(4,Ac n),(41,.bool true)] rfl ⟨rfl,Df ha18,rfl,(by omega),rfl,A7 (hc21 6 _ rfl),bt,Ae⟩ ?_
     obtain⟨b25,o26,ha27,hF29,hc28⟩:=(he22.Af).1.all (show 0<y23.Af.xs.length by omega)
     replace ha27:y23.Af.a=some ⟨b25,o26,none⟩:=ha27
     have hc30:=hc28 n (show n<y23.Af.xs.length by omega)
     have he31:=(he22.Af).2 n (show n<y23.Af.xs.length by omega)
     obtain⟨y32,hy32⟩:∃ y_,y_=gd y23.Af.xs n:=⟨_,rfl⟩
     rw[←hy32]at he31 hc30
     have e0y32:EC c q n=y32:=(by dsimp only[EC];rw[hy32,hy23])
     refine q_c 5 8 [] [[o0,(DN 1 b16 o17 c.Aa),o0,(oi q),o0,⟨.auto [.via 0 (.slice y23.Af.a y23.Af.xs.length y23.Af.cap)],some (.slice (some ⟨b25,o26,none⟩) y23.Af.xs.length y23.Af.cap)⟩,o0,(oi n),(ol 0 (A8.arr y32)),o0,(an 4 2)],[o0,(a1 2),o0,(a1 2),o0,(a1 1),o0,(a1 1)]] [Qb z,Dh b16 o17 c.Aa,Ci q,q<c.Aa.xs.length,BN,Old w b16 (o17+q*8+6) (.slice y23.Af.a y23.Af.xs.length y23.Af.cap),Dh b25 o26 y23.Af,Ci n,n<y23.Af.xs.length,BN,Fa w b25 (o26+n*4) (A8.arr y32),Qb n15,Qb n15,Qb n15,Qb n15,Qb n15,Qb n15,Qb z,Qb z] [(1,pt z),(3,Ac q),(4,Ac n),(54,i6 y32.Frame),(56,i6 y32.AV),(58,i6 c.Kernel),(60,i6 c.Room)] ⟨w,n15+1,[(Ak w),(UW z c),(bk n15 (A8.arr y32) 49)]⟩ rfl ⟨rfl,Df ha18,rfl,(by omega),rfl,A7 (hc21 6 _ rfl),Df ha27,rfl,(by omega),rfl,Dt hc30,rfl,rfl,rfl,rfl,rfl,rfl,rfl,rfl,Ae⟩ ?_
     have hm34:=U7 hFr.2 (TZ (hpf q (by omega))) n (by dsimp only[EQ];omega);rw[e0y32]at hm34;unfold Bd at hm34
     refine Bf 38 #[i6 y32.Frame,i6 y32.AV,i6 c.Kernel,i6 c.Room] (some 61) (.bool (meet y32.Frame y32.AV c.Kernel c.Room)) (fun w33 hw33=>Tq w33 y32.Frame y32.AV c.Kernel c.Room (by omega) (by omega) (by omega) (by omega)) (fun n35 (hn36:n15+1≤n35) => ?_)
     refine Dc [1,3,4,61] [(1,pt z),(3,Ac q),(4,Ac n),(61,.bool (meet y32.Frame y32.AV c.Kernel c.Room))] ?_
     refine TU (by kernel_rfl) ?_
     refine IM ?_
     by_cases h37:(meet y32.Frame y32.AV c.Kernel c.Room)=true
     ·refine Az 6 0 [3] [[o0]] [Value.bool (meet y32.Frame y32.AV c.Kernel c.Room)=Value.bool true] [(2,.bool false)] rfl ⟨(congrArg Value.bool h37),Ae⟩ ?_
      refine AA [] [] (.bool false) Ae ?_
      intro w38 hw38
      refine⟨congrArg (fun b=>Ending.returned (Value.bool b)) (?_:false=FM c),AO hw38⟩
      have eo:(List.range c.Aa.xs.length).any (SC c)=true:=range_any (k:=q) (by omega) (range_any (k:=n) (by dsimp only[EQ];omega) (by unfold Vp;rw[e0y32];exact h37))
      unfold FM;simp[eo]
     refine Az 6 0 [2] [[o0,(ov (i6 ((n+1:Nat):Int))),o0]] [Value.bool (meet y32.Frame y32.AV c.Kernel c.Room)=Value.bool false,Wr ((n:Int)+1) (((n+1:Nat):Int))] [(1,pt z),(3,Ac q),(4,i6 ((n+1:Nat):Int))] rfl ⟨(congrArg Value.bool (Bool.eq_false_iff.2 h37)),BQ,Ae⟩ ?_
     refine Cb [0,1] [(Ak w),(UW z c)] rfl rfl ?_
     refine BK [1,3,4] [(1,pt z),(3,Ac q),(4,i6 ((n+1:Nat):Int))] ?_
     refine BD (fun a w' hs=>⟨(gd c.Aa.xs q).Af.xs.length - (n+1),by omega,n35,(n+1),rfl,by omega,by omega,Fh hh (by unfold Vp;rw[e0y32];simpa using h37),hs⟩)
    refine Az 12 0 [0] [[o0,o0,(DN 1 b16 o17 c.Aa),o0,(oi q),o0,(oa [.via 0 (.slice y23.Af.a y23.Af.xs.length y23.Af.cap)]),o0,oF],[o0,(ov (i6 ((q+1:Nat):Int))),o0]] [Qb z,Dh b16 o17 c.Aa,Ci q,q<c.Aa.xs.length,BN,Old w b16 (o17+q*8+6) (.slice y23.Af.a y23.Af.xs.length y23.Af.cap),BF ((n:Int)<(y23.Af.xs.length:Int)),Wr ((q:Int)+1) (((q+1:Nat):Int))] [(1,pt z),(3,i6 ((q+1:Nat):Int))] rfl ⟨rfl,Df ha18,rfl,(by omega),rfl,A7 (hc21 6 _ rfl),bf,BQ,Ae⟩ ?_
    refine BD (fun a w' hs=>⟨c.Aa.xs.length - (q+1),by omega,n15,(q+1),rfl,by omega,by omega,Fh hg (GL (fun i hi=>hh i (by dsimp only[EQ]at hi;omega))),hs⟩)
   refine Az 11 1 [0] [[o0,o0,(a1 1),o0,oF],[(an 7 1)]] [Qb z,BF ((q:Int)<(c.Aa.xs.length:Int)),Qb z,Qb z,Qb z,Qb z,Qb z,Qb z,Qb z] [(1,pt z),(63,.agg (Aj.arr c))] rfl ⟨rfl,bf,rfl,rfl,rfl,rfl,rfl,rfl,rfl,Ae⟩ ?_
   refine Bf 39 #[.agg (Aj.arr c)] (some 64) (.tuple #[i6 (KG c),i6 (errOf c)]) (fun w39 hw39=>Zdi w39 c (hc.ext (hw39.ext rfl) (fun _ h=>h))) (fun n40 (hn41:n12≤n40) => ?_)
   refine BP 3 0 [] [[o0,o0,o0,o0,o0]] [] [(1,pt z),(6,i6 (KG c)),(7,i6 (errOf c))] rfl Ae ?_
   by_cases h42:(errOf c:Int)=0
   ·by_cases h43:(c.Room:Int)<KG c
    ·refine Az 4 0 [] [[o0,oT,o0,o0,o0,(a1 1),oF,o0,o0]] [ET (errOf c) 0,Qb z,BF ((KG c:Int)≤c.Room)] [(2,.bool false)] rfl ⟨et,rfl,bf,Ae⟩ ?_
     refine AA [] [] (.bool false) Ae ?_
     intro w44 hw44
     refine⟨congrArg (fun b=>Ending.returned (Value.bool b)) (?_:false=FM c),AO hw44⟩
     have eo:(List.range c.Aa.xs.length).any (SC c)=false:=GL (fun i hi=>hg i (by omega))
     unfold FM;rw[eo];simp[h4,h9];first | done | omega
    refine Az 4 0 [] [[o0,oT,o0,o0,o0,(a1 1),oT,o0,o0]] [ET (errOf c) 0,Qb z,BT ((KG c:Int)≤c.Room)] [(2,.bool true)] rfl ⟨et,rfl,bt,Ae⟩ ?_
    refine AA [] [] (.bool true) Ae ?_
    intro w45 hw45
    refine⟨congrArg (fun b=>Ending.returned (Value.bool b)) (?_:true=FM c),AO hw45⟩
    have eo:(List.range c.Aa.xs.length).any (SC c)=false:=GL (fun i hi=>hg i (by omega))
    unfold FM;rw[eo];simp[h4,h9];first | done | omega
   refine Az 4 0 [] [[o0,oF,o0,o0,o0]] [EF (errOf c) 0] [(2,.bool false)] rfl ⟨ef,Ae⟩ ?_
   refine AA [] [] (.bool false) Ae ?_
   intro w46 hw46
   refine⟨congrArg (fun b=>Ending.returned (Value.bool b)) (?_:false=FM c),AO hw46⟩
   have eo:(List.range c.Aa.xs.length).any (SC c)=false:=GL (fun i hi=>hg i (by omega))
   unfold FM;rw[eo];simp[h4,h9];first | done | omega
  have hd47:=FQ h9
  refine BP 8 0 [1] [[(ov (.bool true)),o0],[o0]] [Value.bool (!(win c.Room 1 (c.Frames - c.Kernel)))=Value.bool true] [(2,.bool false)] rfl ⟨by simp[h9],Ae⟩ ?_
  refine AA [] [] (.bool false) Ae ?_
  intro w48 hw48
  refine⟨congrArg (fun b=>Ending.returned (Value.bool b)) (?_:false=FM c),AO hw48⟩
  unfold FM;simp[h4,h9]
 have hd49:=FQ h4
 refine BP 8 0 [1] [[(ov (.bool true)),o0,o0],[o0]] [Value.bool (!(win c.Kernel 0 (c.Frames - 1)))=Value.bool true] [(2,.bool false)] rfl ⟨by simp[h4],Ae⟩ ?_
 refine AA [] [] (.bool false) Ae ?_
 intro w50 hw50
 refine⟨congrArg (fun b=>Ending.returned (Value.bool b)) (?_:false=FM c),AO hw50⟩
 unfold FM;simp[h4]
section
variable {c:Aj}
theorem XK(hW:GG c=Bg):∀ i,i<5→gd (answers c) i=Bg:=fun i hi=>by
 rw[Zp hi];exact fst_nil hW i hi
theorem Yd{n:Nat}(hW:GG c=Bg)(hP:∀ a,a<c.Aa.xs.length→5+a<n→CX c a=Bg)(hH:∀ a,a<c.Ag.xs.length→5+c.Aa.xs.length+a<n→Dx c a=Bg)(hK:∀ a,a<c.Aq.xs.length→5+c.Aa.xs.length+c.Ag.xs.length+a<n→Em c a=Bg)(hn:n≤5+c.Aa.xs.length+c.Ag.xs.length+c.Aq.xs.length):∀ i,i<n→gd (answers c) i=Bg:=by
 intro i hi
 rcases Nat.lt_or_ge i 5 with g | g
 ·exact XK hW i g
 rcases Nat.lt_or_ge i (5+c.Aa.xs.length)with g1 | g1
 ·obtain⟨p,rfl⟩:∃ p,i=5+p:=⟨i - 5,by omega⟩
  rw[ZR (by omega)];exact hP p (by omega) hi
 rcases Nat.lt_or_ge i (5+c.Aa.xs.length+c.Ag.xs.length)with g2 | g2
 ·obtain⟨p,rfl⟩:∃ p,i=5+c.Aa.xs.length+p:=⟨i - (5+c.Aa.xs.length),by omega⟩
  rw[ZbA (by omega)];exact hH p (by omega) hi
 obtain⟨p,rfl⟩:∃ p,i=5+c.Aa.xs.length+c.Ag.xs.length+p:=⟨i - (5+c.Aa.xs.length+c.Ag.xs.length),by omega⟩
 rw[ZbD (by omega)];exact hK p (by omega) hi
theorem check_w(hne:GG c≠Bg):CO c=GG c:=by
 unfold CO answers
 rw[List.append_assoc,List.append_assoc,List.append_assoc,Za4,if_neg (show ¬ Bc [G8 c,whole2 c,Gm c,Gn c,FV c]=Bg from hne)];rfl
theorem check_p{p:Nat}(hW:GG c=Bg)(hf:∀ a,a<p→CX c a=Bg)(hp:p<c.Aa.xs.length)(hne:CX c p≠Bg):CO c=CX c p :=
 (Oj (k:=5+p) (by rw[Iz];omega) (Yd hW (fun a _ h=>hf a (by omega)) (fun a _ h=>by omega) (fun a _ h=>by omega) (by omega)) (by rw[ZR hp];exact hne)).trans (ZR hp)
theorem check_h{h:Nat}(hW:GG c=Bg)(hP:∀ a,a<c.Aa.xs.length→CX c a=Bg)(hf:∀ a,a<h→Dx c a=Bg)(hh:h<c.Ag.xs.length)(hne:Dx c h≠Bg):CO c=Dx c h :=
 (Oj (k:=5+c.Aa.xs.length+h) (by rw[Iz];omega) (Yd hW (fun a ha _=>hP a ha) (fun a _ h=>hf a (by omega)) (fun a _ h=>by omega) (by omega)) (by rw[ZbA hh];exact hne)).trans (ZbA hh)
theorem check_k{k:Nat}(hW:GG c=Bg)(hP:∀ a,a<c.Aa.xs.length→CX c a=Bg)(hH:∀ a,a<c.Ag.xs.length→Dx c a=Bg)(hf:∀ a,a<k→Em c a=Bg)(hk:k<c.Aq.xs.length)(hne:Em c k≠Bg):CO c=Em c k :=
 (Oj (k:=5+c.Aa.xs.length+c.Ag.xs.length+k) (by rw[Iz];omega) (Yd hW (fun a ha _=>hP a ha) (fun a ha _=>hH a ha) (fun a _ h=>hf a (by omega)) (by omega)) (by rw[ZbD hk];exact hne)).trans (ZbD hk)
theorem Zdo(hW:GG c=Bg)(hP:∀ a,a<c.Aa.xs.length→CX c a=Bg)(hH:∀ a,a<c.Ag.xs.length→Dx c a=Bg)(hK:∀ a,a<c.Aq.xs.length→Em c a=Bg):CO c=IQ c:=by
 have hpre:=Yd (n:=5+c.Aa.xs.length+c.Ag.xs.length+c.Aq.xs.length) hW (fun a ha _=>hP a ha) (fun a ha _=>hH a ha) (fun a ha _=>hK a ha) (Nat.le_refl _)
 by_cases e:IQ c=Bg
 ·rw[e]
  exact Zaz fun i hi=>by
   rw[Iz]at hi
   by_cases e2:i=5+c.Aa.xs.length+c.Ag.xs.length+c.Aq.xs.length
   ·rw[e2,ZbB];exact e
   exact hpre i (by omega)
 exact(Oj (by rw[Iz];omega) hpre (by rw[ZbB];exact e)).trans ZbB
theorem Zcu:GG c=Bg∨(¬ (GG c).e=0∧(GG c).Ai=⟨-1, -1⟩):=by
 have h:∀ x∈[G8 c,whole2 c,Gm c,Gn c,FV c],x=Bg∨(¬ x.e=0∧x.Ai=⟨-1, -1⟩):=by
  intro x hx
  simp only[List.mem_cons,List.not_mem_nil,or_false]at hx
  rcases hx with rfl | rfl | rfl | rfl | rfl
  ·unfold G8;cases win c.Frames 1 1024 <;> simp[Ah,Bg]
  ·unfold whole2;cases win c.CJ 1 16384 <;> simp[Ah,Bg]
  ·unfold Gm;cases win (c.Aq.xs.length:Int) 1 4 <;> simp[Ah,Bg]
  ·unfold Gn;cases win (c.Aa.xs.length:Int) 1 8 <;> simp[Ah,Bg]
  unfold FV;cases decide ((c.Ag.xs.length:Int)≤16) <;> simp[Ah,Bg]
 unfold GG
 generalize [G8 c,whole2 c,Gm c,Gn c,FV c]=l at h
 induction l with
 | nil=>exact .inl rfl
 | cons x r ih =>
  unfold Bc
  by_cases e:x=Bg
  ·rw[if_pos e];exact ih fun y hy=>h y (List.mem_cons_of_mem _ hy)
  rw[if_neg e];exact h x (List.mem_cons_self ..)
theorem WT:(GG c).e=0↔GG c=Bg:=by
 constructor
 ·intro h;rcases Zcu (c:=c)with e | e
  ·exact e
  exact absurd h e.1
 intro h;rw[h];rfl
theorem chan_at(h:Nat):Dx c h=Bg∨(¬ (Dx c h).e=0∧(Dx c h).Ai=⟨(h:Int), -1⟩):=by
 unfold Dx
 cases(win (MF c h).Kind 1 2&&win (MF c h).Words 1 16&&Eu (MF c h)) <;> cases decide ((II c h:Nat)=(1:Int)) <;> cases win (BB c h:Nat) 1 (AB (MF c h)) <;> simp[Bc,Ah,Bg]
theorem frames_w(hW:GG c=Bg):1≤c.Frames∧c.Frames≤1024:=Xm (n:=5) (XK hW) (by decide)
theorem parts_w(hW:GG c=Bg):c.Aa.xs.length≤1024:=ZbS (n:=5) (XK hW) (by decide)
theorem ports_w(hP:∀ a,a<c.Aa.xs.length→CX c a=Bg):∀ p,p<c.Aa.xs.length→(gd c.Aa.xs p).Am.xs.length≤1024:=fun p hp=>by
 have h:=(Vo (partQ_E (hP p hp))).1
 have h2:=VC h _ (List.mem_cons_of_mem _ (List.mem_cons_self ..))
 rw[UI (by decide)]at h2
 have:=of_decide_eq_true h2
 simp only[EQ]at this
 omega
end
section
variable (z:Nat)(c:Aj)(p k:Nat)(n28 n9:Nat)
abbrev qjhh_0:=bk (z+1) #[i6 ((CX c p).Ai.First),i6 ((CX c p).Ai.Second)] 34
abbrev qjhh_1:=bk (z+1) #[i6 ((Em c k).Ai.First),i6 ((Em c k).Ai.Second)] 34
abbrev ZK:=bk n28 #[i6 ((Em c k).Ai.First),i6 ((Em c k).Ai.Second)] 34
abbrev Zt:=bk n9 #[i6 ((CX c p).Ai.First),i6 ((CX c p).Ai.Second)] 34
abbrev O9:=bk (z+1) #[i6 0,i6 0] 34
abbrev Ky:=bk z (Aj.arr c) 26
abbrev Gj:=(3,pt (z+1))
end
theorem N7(w:World)(c:Aj)(hc:Aj.ok Any w c):Calls Tryd.prog 8 #[.agg (Aj.arr c)] w fun e w'=>e = .returned (.tuple #[.int .i64 (CO c).e,.agg #[.int .i64 (CO c).Ai.First,.int .i64 (CO c).Ai.Second]])∧CP (fun _=>False) w w':=by
 obtain⟨z,hz⟩:∃ z,z=w.heap.size:=⟨_,rfl⟩
 refine CE (args:=[.agg (Aj.arr c)]) 73 ⟨w,z,[(Ak w)]⟩ Tryd.func8 rfl (by kernel_rfl) (by kernel_rfl) (Ep hz) ?_
 have hpl:=hc.Aa.1.len;have hpc:=hc.Aq.1.len;have hpch:=hc.Ag.1.len
 refine DC [0] [(0,.agg (Aj.arr c))] ?_
 refine q_c 6 1 [] [[o0,o0,o0],[(an 7 1)]] [Qb z,Qb z,Qb z,Qb z,Qb z,Qb z,Qb z] [(1,pt z),(Gj z),(13,.agg (Aj.arr c))] ⟨w,z+2,[(Ak w),(Ky z c),(O9 z)]⟩ rfl ⟨rfl,rfl,rfl,rfl,rfl,rfl,rfl,Ae⟩ ?_
 refine Bf 21 #[.agg (Aj.arr c)] (some 14) (i6 ((GG c).e)) (fun w1 hw1=>ZcM w1 c (hc.ext (hw1.ext rfl) (fun _ h=>h))) (fun n2 (hn3:z+2≤n2) => ?_)
 refine BP 4 0 [] [[o0]] [] [(1,pt z),(Gj z),(4,i6 ((GG c).e))] rfl Ae ?_
 by_cases h4:((GG c).e:Int)=0
 ·have hW:=WT.1 h4;have hFr:=frames_w hW
  refine Az 12 0 [0] [[o0,oF],[o0]] [NF ((GG c).e) 0] [(1,pt z),(Gj z),(5,i6 0)] rfl ⟨nf,Ae⟩ ?_
  refine Di (fun m a w'=>∃ (n6:Nat) (p:Nat),m=c.Aa.xs.length - p∧n2≤n6∧(p≤c.Aa.xs.length)∧(∀ a,a<p→CX c a=Bg)∧St 73 [(1,pt z),(Gj z),(5,Ac p)] [] ⟨w,n6,[(Ak w),(Ky z c),(O9 z)]⟩ a w') (c.Aa.xs.length - 0) ?_ ?_
  ·intro a w' hs;exact⟨n2,0,rfl,Nat.le_refl _,Nat.zero_le _,fun i hi=>absurd hi (Nat.not_lt_zero i),hs⟩
  rintro m a w' ⟨n6,p,rfl,hn5,hkp,hf1,hs⟩
  refine(?_:G Tryd.prog 73 [(1,pt z),(Gj z),(5,Ac p)] [] ⟨w,n6,[(Ak w),(Ky z c),(O9 z)]⟩ _ _ _) a w' hs
  clear hs a w'
  refine Ce <| Ce ?_
  by_cases h7:(p:Int)<(c.Aa.xs.length:Int)
  ·have hp0:p<c.Aa.xs.length:=by omega
   refine Az 10 2 [1] [[o0,o0,(a1 1),o0,oT],[(an 7 1),o0]] [Qb z,BT ((p:Int)<(c.Aa.xs.length:Int)),Qb z,Qb z,Qb z,Qb z,Qb z,Qb z,Qb z] [(1,pt z),(Gj z),(5,Ac p),(27,.agg (Aj.arr c)),(28,Ac p)] rfl ⟨rfl,bt,rfl,rfl,rfl,rfl,rfl,rfl,rfl,Ae⟩ ?_
   refine Bf 23 #[.agg (Aj.arr c),Ac p] (some 29) (.tuple #[i6 ((CX c p).e),.agg #[i6 ((CX c p).Ai.First),i6 ((CX c p).Ai.Second)]]) (fun w8 hw8=>Zj w8 c (hc.ext (hw8.ext rfl) (fun _ h=>h)) p hp0 hFr hf1) (fun n9 (hn10:n6≤n9) => ?_)
   refine EY 3 0 [] [[o0,o0,o0,o0,o0,(an 2 3)]] [Qb n9,Qb n9] [(1,pt z),(Gj z),(5,Ac p),(7,pt n9),(6,i6 ((CX c p).e))] ⟨w,n9+1,[(Ak w),(Ky z c),(O9 z),(Zt c p n9)]⟩ rfl ⟨rfl,rfl,Ae⟩ ?_
   by_cases h11:((CX c p).e:Int)=0
   ·refine Az 9 0 [0] [[o0,oF],[o0,(ov (i6 ((p+1:Nat):Int))),o0]] [NF ((CX c p).e) 0,Wr ((p:Int)+1) (((p+1:Nat):Int))] [(1,pt z),(Gj z),(5,i6 ((p+1:Nat):Int))] rfl ⟨nf,BQ,Ae⟩ ?_
    refine Cb [0,1,2] [(Ak w),(Ky z c),(O9 z)] rfl rfl ?_
    refine BK [1,3,5] [(1,pt z),(Gj z),(5,i6 ((p+1:Nat):Int))] ?_
    refine BD (fun a w' hs=>⟨c.Aa.xs.length - (p+1),by omega,(n9+1),(p+1),rfl,by omega,by omega,Fh hf1 ((UO (Zck c p)).1 h11),hs⟩)
   refine Az 5 0 [1] [[o0,oT]] [NT ((CX c p).e) 0] [(1,pt z),(Gj z),(5,Ac p),(7,pt n9),(6,i6 ((CX c p).e)),(33,.bool true)] rfl ⟨nt,Ae⟩ ?_
   refine Eh 3 [0,1,2,3] [(Ak w),(Ky z c),(O9 z),(Zt c p n9)] rfl rfl ?_
   refine Dj [(0,o0),(1,(an 2 3)),(2,o0)] [3,35,2] [Qb n9,Qb n9] [true,true,true,false] [(Gj z),(35,.agg #[i6 ((CX c p).Ai.First),i6 ((CX c p).Ai.Second)]),(2,i6 ((CX c p).e))] ⟨rfl,rfl,Ae⟩ ?_
   refine BC 3 ?_
   refine BH (an 2 2) [3,2] [Qb (z+1),Qb (z+1)] [(Gj z),(2,i6 ((CX c p).e))] ⟨w,n9+1,[(Ak w),(Ky z c),(qjhh_0 z c p),(Zt c p n9)]⟩ [] ⟨rfl,rfl,Ae⟩ (.inl rfl) ?_
   refine Es 4 [0,1,2,3] [(Ak w),(Ky z c),(qjhh_0 z c p),(Zt c p n9)] rfl rfl ?_
   refine CU ?_
   refine BK [3,2] [(Gj z),(2,i6 ((CX c p).e))] ?_
   refine IM <| KR <| AA [.at 2,.at 2] [Qb (z+1),Qb (z+1)] (.tuple #[i6 ((CX c p).e),.agg #[i6 ((CX c p).Ai.First),i6 ((CX c p).Ai.Second)]]) ⟨rfl,rfl,Ae⟩ ?_
   intro w12 hw12
   have hq:=check_p hW hf1 hp0 (fun e=>h11 ((UO (Zck c p)).2 e))
   exact⟨congrArg Ending.returned (by rw[hq]),AO hw12⟩
  refine Az 15 0 [0] [[o0,o0,(a1 1),o0,oF],[o0]] [Qb z,BF ((p:Int)<(c.Aa.xs.length:Int))] [(1,pt z),(Gj z),(8,i6 0)] rfl ⟨rfl,bf,Ae⟩ ?_
  refine Di (fun m a w'=>∃ (n14:Nat) (h:Nat),m=c.Ag.xs.length - h∧n6≤n14∧(h≤c.Ag.xs.length)∧(∀ a,a<h→Dx c a=Bg)∧St 73 [(1,pt z),(Gj z),(8,Ac h)] [] ⟨w,n14,[(Ak w),(Ky z c),(O9 z)]⟩ a w') (c.Ag.xs.length - 0) ?_ ?_
  ·intro a w' hs;exact⟨n6,0,rfl,Nat.le_refl _,Nat.zero_le _,fun i hi=>absurd hi (Nat.not_lt_zero i),hs⟩
  rintro m a w' ⟨n14,h,rfl,hn13,hkh,hf2,hs⟩
  refine(?_:G Tryd.prog 73 [(1,pt z),(Gj z),(8,Ac h)] [] ⟨w,n14,[(Ak w),(Ky z c),(O9 z)]⟩ _ _ _) a w' hs
  clear hs a w'
  have hP:∀ a,a<c.Aa.xs.length→CX c a=Bg:=fun a ha=>hf1 a (by omega)
  refine Ce <| Ce ?_
  by_cases h15:(h:Int)<(c.Ag.xs.length:Int)
  ·have hh0:h<c.Ag.xs.length:=by omega
   refine Az 10 2 [1] [[o0,o0,(a1 1),o0,oT],[(an 7 1),o0]] [Qb z,BT ((h:Int)<(c.Ag.xs.length:Int)),Qb z,Qb z,Qb z,Qb z,Qb z,Qb z,Qb z] [(1,pt z),(Gj z),(8,Ac h),(43,.agg (Aj.arr c)),(44,Ac h)] rfl ⟨rfl,bt,rfl,rfl,rfl,rfl,rfl,rfl,rfl,Ae⟩ ?_
   refine Bf 24 #[.agg (Aj.arr c),Ac h] (some 45) (i6 ((Dx c h).e)) (fun w16 hw16=>ZaS w16 c (hc.ext (hw16.ext rfl) (fun _ h=>h)) h hh0 (parts_w hW) (ports_w hP)) (fun n17 (hn18:n14≤n17) => ?_)
   refine BP 3 0 [] [[o0]] [] [(1,pt z),(Gj z),(8,Ac h),(9,i6 ((Dx c h).e))] rfl Ae ?_
   by_cases h19:((Dx c h).e:Int)=0
   ·refine Az 9 0 [0] [[o0,oF],[o0,(ov (i6 ((h+1:Nat):Int))),o0]] [NF ((Dx c h).e) 0,Wr ((h:Int)+1) (((h+1:Nat):Int))] [(1,pt z),(Gj z),(8,i6 ((h+1:Nat):Int))] rfl ⟨nf,BQ,Ae⟩ ?_
    refine BD (fun a w' hs=>⟨c.Ag.xs.length - (h+1),by omega,n17,(h+1),rfl,by omega,by omega,Fh hf2 ((UO (Zb c h)).1 h19),hs⟩)
   refine Az 6 2 [1] [[o0,oT],[o0,o0]] [NT ((Dx c h).e) 0] [(Gj z),(48,i6 ((Dx c h).e)),(49,Ac h)] rfl ⟨nt,Ae⟩ ?_
   refine Bf 25 #[(Ac h)] (some 50) (.agg #[(Ac h),i6 (-1)]) (fun w20 hw20=>JZ w20 (h:Int)) (fun n21 (hn22:n17≤n21) => ?_)
   refine EY 3 0 [] [[o0,(an 2 2)]] [Qb (z+1),Qb (z+1)] [(Gj z),(2,i6 ((Dx c h).e))] ⟨w,n21,[(Ak w),(Ky z c),(bk (z+1) #[(Ac h),i6 (-1)] 34)]⟩ rfl ⟨rfl,rfl,Ae⟩ ?_
   refine AA [.at 2,.at 2] [Qb (z+1),Qb (z+1)] (.tuple #[i6 ((Dx c h).e),.agg #[(Ac h),i6 (-1)]]) ⟨rfl,rfl,Ae⟩ ?_
   intro w23 hw23
   have hw9:(Dx c h).Ai=⟨(h:Int), -1⟩:=by rcases chan_at (c:=c) h with e | e;exact absurd ((UO (Zb c h)).2 e) h19;exact e.2
   have hq:=check_h hW hP hf2 hh0 (fun e=>h19 ((UO (Zb c h)).2 e))
   exact⟨congrArg Ending.returned (by rw[hq,hw9]),AO hw23⟩
  refine Az 15 0 [0] [[o0,o0,(a1 1),o0,oF],[o0]] [Qb z,BF ((h:Int)<(c.Ag.xs.length:Int))] [(1,pt z),(Gj z),(10,i6 0)] rfl ⟨rfl,bf,Ae⟩ ?_
  refine Di (fun m a w'=>∃ (n25:Nat) (k:Nat),m=c.Aq.xs.length - k∧n14≤n25∧(k≤c.Aq.xs.length)∧(∀ a,a<k→Em c a=Bg)∧St 73 [(1,pt z),(Gj z),(10,Ac k)] [] ⟨w,n25,[(Ak w),(Ky z c),(O9 z)]⟩ a w') (c.Aq.xs.length - 0) ?_ ?_
  ·intro a w' hs;exact⟨n14,0,rfl,Nat.le_refl _,Nat.zero_le _,fun i hi=>absurd hi (Nat.not_lt_zero i),hs⟩
  rintro m a w' ⟨n25,k,rfl,hn24,hkk,hf3,hs⟩
  refine(?_:G Tryd.prog 73 [(1,pt z),(Gj z),(10,Ac k)] [] ⟨w,n25,[(Ak w),(Ky z c),(O9 z)]⟩ _ _ _) a w' hs
  clear hs a w'
  have hP:∀ a,a<c.Aa.xs.length→CX c a=Bg:=fun a ha=>hf1 a (by omega)
  have hH:∀ a,a<c.Ag.xs.length→Dx c a=Bg:=fun a ha=>hf2 a (by omega)
  refine Ce <| Ce ?_
  by_cases h26:(k:Int)<(c.Aq.xs.length:Int)
  ·have hk0:k<c.Aq.xs.length:=by omega
   refine Az 10 2 [1] [[o0,o0,(a1 1),o0,oT],[(an 7 1),o0]] [Qb z,BT ((k:Int)<(c.Aq.xs.length:Int)),Qb z,Qb z,Qb z,Qb z,Qb z,Qb z,Qb z] [(1,pt z),(Gj z),(10,Ac k),(59,.agg (Aj.arr c)),(60,Ac k)] rfl ⟨rfl,bt,rfl,rfl,rfl,rfl,rfl,rfl,rfl,Ae⟩ ?_
   refine Bf 26 #[.agg (Aj.arr c),Ac k] (some 61) (.tuple #[i6 ((Em c k).e),.agg #[i6 ((Em c k).Ai.First),i6 ((Em c k).Ai.Second)]]) (fun w27 hw27=>ZcZ w27 c (hc.ext (hw27.ext rfl) (fun _ h=>h)) k hk0) (fun n28 (hn29:n25≤n28) => ?_)
   refine EY 3 0 [] [[o0,o0,o0,o0,o0,(an 2 3)]] [Qb n28,Qb n28] [(1,pt z),(Gj z),(10,Ac k),(12,pt n28),(11,i6 ((Em c k).e))] ⟨w,n28+1,[(Ak w),(Ky z c),(O9 z),(ZK c k n28)]⟩ rfl ⟨rfl,rfl,Ae⟩ ?_
   by_cases h30:((Em c k).e:Int)=0
   ·refine Az 9 0 [0] [[o0,oF],[o0,(ov (i6 ((k+1:Nat):Int))),o0]] [NF ((Em c k).e) 0,Wr ((k:Int)+1) (((k+1:Nat):Int))] [(1,pt z),(Gj z),(10,i6 ((k+1:Nat):Int))] rfl ⟨nf,BQ,Ae⟩ ?_
    refine Cb [0,1,2] [(Ak w),(Ky z c),(O9 z)] rfl rfl ?_
    refine BK [1,3,10] [(1,pt z),(Gj z),(10,i6 ((k+1:Nat):Int))] ?_
    refine BD (fun a w' hs=>⟨c.Aq.xs.length - (k+1),by omega,(n28+1),(k+1),rfl,by omega,by omega,Fh hf3 ((UO (Zcy c k)).1 h30),hs⟩)
   refine Az 5 0 [1] [[o0,oT]] [NT ((Em c k).e) 0] [(1,pt z),(Gj z),(10,Ac k),(12,pt n28),(11,i6 ((Em c k).e)),(65,.bool true)] rfl ⟨nt,Ae⟩ ?_
   refine Eh 3 [0,1,2,3] [(Ak w),(Ky z c),(O9 z),(ZK c k n28)] rfl rfl ?_
   refine Dj [(0,o0),(1,(an 2 3)),(2,o0)] [3,67,2] [Qb n28,Qb n28] [true,true,true,false] [(Gj z),(67,.agg #[i6 ((Em c k).Ai.First),i6 ((Em c k).Ai.Second)]),(2,i6 ((Em c k).e))] ⟨rfl,rfl,Ae⟩ ?_
   refine BC 3 ?_
   refine BH (an 2 2) [3,2] [Qb (z+1),Qb (z+1)] [(Gj z),(2,i6 ((Em c k).e))] ⟨w,n28+1,[(Ak w),(Ky z c),(qjhh_1 z c k),(ZK c k n28)]⟩ [] ⟨rfl,rfl,Ae⟩ (.inl rfl) ?_
   refine Es 4 [0,1,2,3] [(Ak w),(Ky z c),(qjhh_1 z c k),(ZK c k n28)] rfl rfl ?_
   refine CU ?_
   refine BK [3,2] [(Gj z),(2,i6 ((Em c k).e))] ?_
   refine IM <| KR <| AA [.at 2,.at 2] [Qb (z+1),Qb (z+1)] (.tuple #[i6 ((Em c k).e),.agg #[i6 ((Em c k).Ai.First),i6 ((Em c k).Ai.Second)]]) ⟨rfl,rfl,Ae⟩ ?_
   intro w31 hw31
   have hq:=check_k hW hP hH hf3 hk0 (fun e=>h30 ((UO (Zcy c k)).2 e))
   exact⟨congrArg Ending.returned (by rw[hq]),AO hw31⟩
  refine Az 12 1 [0] [[o0,o0,(a1 1),o0,oF],[(an 7 1)]] [Qb z,BF ((k:Int)<(c.Aq.xs.length:Int)),Qb z,Qb z,Qb z,Qb z,Qb z,Qb z,Qb z] [(Gj z),(68,.agg (Aj.arr c))] rfl ⟨rfl,bf,rfl,rfl,rfl,rfl,rfl,rfl,rfl,Ae⟩ ?_
  refine Bf 27 #[.agg (Aj.arr c)] (some 69) (.bool (FM c)) (fun w32 hw32=>Zda w32 c (hc.ext (hw32.ext rfl) (fun _ h=>h)) hFr hP) (fun n33 (hn34:n25≤n33) => ?_)
  refine Dc [3,69] [(Gj z),(69,.bool (FM c))] ?_
  by_cases h35:(FM c)=true
  ·refine BP 10 0 [0] [[(ov (.bool false))],[o0,o0,(an 2 2)]] [Value.bool (!(FM c))=Value.bool false,Qb (z+1),Qb (z+1)] [(Gj z),(2,i6 0)] rfl ⟨by simp[h35],rfl,rfl,Ae⟩ ?_
   refine AA [.at 2,.at 2] [Qb (z+1),Qb (z+1)] (.tuple #[i6 0,.agg #[i6 0,i6 0]]) ⟨rfl,rfl,Ae⟩ ?_
   intro w36 hw36
   have hq:CO c=⟨0,⟨0,0⟩⟩:=(Zdo hW hP hH (fun a ha=>hf3 a (by omega))).trans (by unfold IQ;rw[show FM c=true from by simpa using h35];rfl)
   exact⟨congrArg Ending.returned (by rw[hq]),AO hw36⟩
  refine BP 5 0 [1] [[(ov (.bool true))]] [Value.bool (!(FM c))=Value.bool true] [(Gj z),(70,.bool true)] rfl ⟨by simp[h35],Ae⟩ ?_
  refine Bf 22 #[] (some 71) (.agg #[i6 (-1),i6 (-1)]) (fun w37 hw37=>YW w37 ) (fun n38 (hn39:n33≤n38) => ?_)
  refine EY 3 0 [] [[o0,(an 2 2)]] [Qb (z+1),Qb (z+1)] [(Gj z),(2,i6 423)] ⟨w,n38,[(Ak w),(Ky z c),(bk (z+1) #[i6 (-1),i6 (-1)] 34)]⟩ rfl ⟨rfl,rfl,Ae⟩ ?_
  refine AA [.at 2,.at 2] [Qb (z+1),Qb (z+1)] (.tuple #[i6 423,.agg #[i6 (-1),i6 (-1)]]) ⟨rfl,rfl,Ae⟩ ?_
  intro w40 hw40
  have hq:CO c=⟨423,⟨-1, -1⟩⟩:=(Zdo hW hP hH (fun a ha=>hf3 a (by omega))).trans (by unfold IQ;rw[show FM c=false from by simpa using h35];rfl)
  exact⟨congrArg Ending.returned (by rw[hq]),AO hw40⟩
 refine Az 6 1 [1] [[o0,oT],[o0]] [NT ((GG c).e) 0] [(Gj z),(17,i6 ((GG c).e))] rfl ⟨nt,Ae⟩ ?_
 refine Bf 22 #[] (some 18) (.agg #[i6 (-1),i6 (-1)]) (fun w41 hw41=>YW w41 ) (fun n42 (hn43:n2≤n42) => ?_)
 refine EY 3 0 [] [[o0,(an 2 2)]] [Qb (z+1),Qb (z+1)] [(Gj z),(2,i6 ((GG c).e))] ⟨w,n42,[(Ak w),(Ky z c),(bk (z+1) #[i6 (-1),i6 (-1)] 34)]⟩ rfl ⟨rfl,rfl,Ae⟩ ?_
 refine AA [.at 2,.at 2] [Qb (z+1),Qb (z+1)] (.tuple #[i6 ((GG c).e),.agg #[i6 (-1),i6 (-1)]]) ⟨rfl,rfl,Ae⟩ ?_
 intro w44 hw44
 have hw9:(GG c).Ai=⟨-1, -1⟩:=by rcases Zcu (c:=c)with e | e;exact absurd (WT.2 e) h4;exact e.2
 have hq:=check_w (fun e=>h4 (WT.2 e))
 exact⟨congrArg Ending.returned (by rw[hq,hw9]),AO hw44⟩
theorem Q8{α:Type}[Inhabited α]{xs:List α}{k:Nat}(h:k<xs.length):gd xs k∈xs:=by rw[F9 h];exact List.getElem_mem _
structure PermC(c d:Aj):Prop where
 nums:d.Frames=c.Frames∧d.CJ=c.CJ∧d.Kernel=c.Kernel∧d.Room=c.Room
 cl:d.Aq.xs.length=c.Aq.xs.length
 pl:d.Aa.xs.length=c.Aa.xs.length
 ch:d.Ag.xs=c.Ag.xs
 ws:∀ i,i<c.Aq.xs.length→((gd d.Aq.xs i).xs).Perm (gd c.Aq.xs i).xs
 rs:∀ p,p<c.Aa.xs.length→((gd d.Aa.xs p).Af.xs).Perm (gd c.Aa.xs p).Af.xs
 ps:∀ p,p<c.Aa.xs.length→(gd d.Aa.xs p).Name=(gd c.Aa.xs p).Name∧(gd d.Aa.xs p).Entry=(gd c.Aa.xs p).Entry∧(gd d.Aa.xs p).DK=(gd c.Aa.xs p).DK∧(gd d.Aa.xs p).AY=(gd c.Aa.xs p).AY∧(gd d.Aa.xs p).DI=(gd c.Aa.xs p).DI∧(gd d.Aa.xs p).Bi=(gd c.Aa.xs p).Bi∧(gd d.Aa.xs p).Am.xs=(gd c.Aa.xs p).Am.xs
theorem PermC.symm{c d:Aj}(h:PermC c d):PermC d c:=by
 obtain⟨⟨a1,a2,a3,a4⟩,h2,h3,h4,h5,h6,h7⟩:=h
 refine⟨⟨a1.symm,a2.symm,a3.symm,a4.symm⟩,h2.symm,h3.symm,h4.symm,fun i hi=>(h5 i (by omega)).symm,fun p hp=>(h6 p (by omega)).symm,fun p hp => ?_⟩
 obtain⟨b1,b2,b3,b4,b5,b6,b7⟩:=h7 p (by omega)
 exact⟨b1.symm,b2.symm,b3.symm,b4.symm,b5.symm,b6.symm,b7.symm⟩
theorem lent_new{z:Nat}{w0 W:World}{k:Nat}{L:Hf}{sp:List (Sl Au)}(h:Sat ⟨w0,k,SG z L sp⟩ W):∀ x∈SG z L sp,∀ b,x.F b→z≤b:=by
 intro x hx b hb
 have hh:=h.all x hx
 simp only[SG,List.mem_cons,List.not_mem_nil,or_false]at hx
 rcases hx with rfl | rfl | rfl | rfl | rfl | rfl | rfl | rfl | rfl | rfl
 ·exact Uk hh b hb
 ·exact Uk hh b hb
 ·exact Uk hh b hb
 ·exact YK hh b hb
 ·exact YK hh b hb
 ·exact Uk hh b hb
 ·exact Uk hh b hb
 ·exact YK hh b hb
 ·exact Uk hh b hb
 exact YK hh b hb
theorem lim_of{c d:Aj}(h:TD c)(hs:strip d=strip c):TD d:=by
 obtain⟨q1,q2,q3,q4,q5⟩:=ZcO hs
 refine⟨by rw[q1];exact h.cl,by rw[q2];exact h.pl,by rw[q3];exact h.hl,fun i hi => ?_,fun i hi => ?_,fun i hi => ?_⟩
 ·rw[q4];rw[q1]at hi;exact h.ws i hi
 ·rw[(ZaN (q5 i)).2.2.2.2.2.2.1];rw[q2]at hi;exact h.rs i hi
 rw[(ZaN (q5 i)).2.2.2.2.2.2.2];rw[q2]at hi;exact h.qs i hi
theorem Zav{n m:Nat}{W w0:World}{c:Aj}{cs ws sp:List (Sl Au)}{ps:List Ap}{rs:List (Sl A8)}{qs:List (Sl Bh)}(aH:Option Addr)(cH:Nat)(aC:Option Addr)(cC:Nat)(aW:Option Addr)(cW:Nat)(aP:Option Addr)(cP:Nat)(aR:Option Addr)(cR:Nat)(aQ:Option Addr)(cQ:Nat)(hN:Tm c)(hl:TD c)(hC:NU c (c.Aq.xs.length+24) cs ws sp)(hP:Oa c (c.Aa.xs.length+24) ps rs qs)(h:Sat ⟨w0,m,SG n (Xc c aH cH aC cC cs aW cW ws aP cP ps aR cR rs aQ cQ qs) sp⟩ W):Hf.ok (New n) W (Xc c aH cH aC cC cs aW cW ws aP cP ps aR cR rs aQ cQ qs):=lent_ok hN hl (Z4 hC hP) ⟨w0,by rw[h.size];exact h⟩
theorem NV{n m nC nP:Nat}{W w0:World}{c:Aj}{cs ws sp:List (Sl Au)}{ps:List Ap}{rs:List (Sl A8)}{qs:List (Sl Bh)}(aH:Option Addr)(cH:Nat)(aC:Option Addr)(cC:Nat)(aW:Option Addr)(cW:Nat)(aP:Option Addr)(cP:Nat)(aR:Option Addr)(cR:Nat)(aQ:Option Addr)(cQ:Nat)(hN:Tm c)(hl:TD c)(hC:NU c (c.Aq.xs.length+24) cs ws sp)(hP:Oa c (c.Aa.xs.length+24) ps rs qs)(h:Sat ⟨w0,m,SG n (Xc c aH cH aC cC cs aW cW ws aP cP ps aR cR rs aQ cQ qs) sp⟩ W)(hL:JM W)(e1:c.Aq.xs.length=nC)(e2:c.Aa.xs.length=nP):Calls Tryd.prog 9 #[.agg #[.int .i64 c.Frames,.int .i64 c.CJ,.int .i64 c.Kernel,.int .i64 c.Room,.slice aC nC (cC - 0),.slice aP nP (cP - 0),.slice aH c.Ag.xs.length (cH - 0)]] W fun e w'=>e = .returned (.tuple #[.int .i64 (CO c).e,.agg #[.int .i64 (CO c).Ai.First,.int .i64 (CO c).Ai.Second]])∧CP (fun _=>False) W w':=by
 subst e1 e2
 have hk:=Zav aH cH aC cC aW cW aP cP aR cR aQ cQ hN hl hC hP h
 have hs:=WF (Z4 (aH:=aH) (cH:=cH) (aC:=aC) (cC:=cC) (aW:=aW) (cW:=cW) (aP:=aP) (cP:=cP) (aR:=aR) (cR:=cR) (aQ:=aQ) (cQ:=cQ) hC hP)
 have:=ZcU W hL _ (hk.C.ext (Ext.refl _ _) (fun _ _=>trivial)) (lim_of hl hs).sum
 rw[OT hs,ZbQ hC.l1 hP.l1]at this
 exact this
theorem QR{n m nC nP:Nat}{W w0:World}{c:Aj}{cs ws sp:List (Sl Au)}{ps:List Ap}{rs:List (Sl A8)}{qs:List (Sl Bh)}(aH:Option Addr)(cH:Nat)(aC:Option Addr)(cC:Nat)(aW:Option Addr)(cW:Nat)(aP:Option Addr)(cP:Nat)(aR:Option Addr)(cR:Nat)(aQ:Option Addr)(cQ:Nat)(hN:Tm c)(hl:TD c)(hC:NU c (c.Aq.xs.length+24) cs ws sp)(hP:Oa c (c.Aa.xs.length+24) ps rs qs)(h:Sat ⟨w0,m,SG n (Xc c aH cH aC cC cs aW cW ws aP cP ps aR cR rs aQ cQ qs) sp⟩ W)(e1:c.Aq.xs.length=nC)(e2:c.Aa.xs.length=nP):Calls Tryd.prog 11 #[.agg #[.int .i64 c.Frames,.int .i64 c.CJ,.int .i64 c.Kernel,.int .i64 c.Room,.slice aC nC (cC - 0),.slice aP nP (cP - 0),.slice aH c.Ag.xs.length (cH - 0)]] W fun e w'=>∃ d:Aj,e = .returned (.agg (Aj.arr d))∧strip d=strip c∧Aj.ok (New m) w' d∧CP (fun _=>False) W w':=by
 subst e1 e2
 have hk:=Zav aH cH aC cC aW cW aP cP aR cR aQ cQ hN hl hC hP h
 have hs:=WF (Z4 (aH:=aH) (cH:=cH) (aC:=aC) (cC:=cC) (aW:=aW) (cW:=cW) (aP:=aP) (cP:=cP) (aR:=aR) (cR:=cR) (aQ:=aQ) (cQ:=cQ) hC hP)
 have:=ZbH W _ (hk.C.ext (Ext.refl _ _) (fun _ _=>trivial)) (lim_of hl hs)
 rw[ZbQ hC.l1 hP.l1]at this
 refine this.mono ?_
 rintro e w' ⟨d,he,h1,h2,h3⟩
 have hz:W.heap.size=m:=h.size
 rw[←hz]
 exact⟨d,he,h1.trans hs,own_ok hk.C h1 h2,h3⟩
theorem leaf_kept{n m:Nat}{W w0:World}{c:Aj}{cs ws sp:List (Sl Au)}{ps:List Ap}{rs:List (Sl A8)}{qs:List (Sl Bh)}(aH:Option Addr)(cH:Nat)(aC:Option Addr)(cC:Nat)(aW:Option Addr)(cW:Nat)(aP:Option Addr)(cP:Nat)(aR:Option Addr)(cR:Nat)(aQ:Option Addr)(cQ:Nat)(hN:Tm c)(hl:TD c)(hC:NU c (c.Aq.xs.length+24) cs ws sp)(hP:Oa c (c.Aa.xs.length+24) ps rs qs)(h:Sat ⟨w0,m,SG n (Xc c aH cH aC cC cs aW cW ws aP cP ps aR cR rs aQ cQ qs) sp⟩ W)(hc:Aj.ok Any W c):Calls Tryd.prog 10 #[.agg #[.int .i64 c.Frames,.int .i64 c.CJ,.int .i64 c.Kernel,.int .i64 c.Room,.slice aC c.Aq.xs.length (cC - 0),.slice aP c.Aa.xs.length (cP - 0),.slice aH c.Ag.xs.length (cH - 0),.slice aH (wid DD c.Ag.xs).length cH,.slice aC cs.length cC,.slice aW ws.length cW,.slice aP ps.length cP,.slice aR rs.length cR,.slice aQ qs.length cQ],.agg (Aj.arr c)] W fun e w'=>e = .returned (.bool true)∧CP (fun _=>False) W w':=by
 have hk:=Zav aH cH aC cC aW cW aP cP aR cR aQ cQ hN hl hC hP h
 have:=kept_calls W c _ sp (hk.ext (Ext.refl _ _) (fun _ _=>trivial)) (Z4 hC hP) hc
 rw[Zdn hC.l1 hP.l1]at this
 exact this
section
variable (w2:World)(c:Aj)(b21 cC:Nat)(b16 cP:Nat)(aH:Option Addr)(cH:Nat)(cs:List (Sl Au))(aW:Option Addr)(ws:List (Sl Au))(cW:Nat)(ps:List (Ap))(aR:Option Addr)(rs:List (Sl A8))(cR:Nat)(aQ:Option Addr)(qs:List (Sl Bh))(cQ b60:Nat)(aP aC:Option Addr)(w34:World)(mark:Int)(xR:List Au)(w73 w44:World)(w54 w14:World)(w83 w93:World)(w5 w8:World)(z b25:Nat)(cX b64:Nat)
abbrev SB:Ch:= .blk w2.heap.size (.cells #[i6 c.Frames,i6 c.CJ,i6 c.Kernel,i6 c.Room,.slice (some ⟨b21,0,none⟩) c.Aq.xs.length (cC - 0),.slice (some ⟨b16,0,none⟩) c.Aa.xs.length (cP - 0),.slice aH c.Ag.xs.length (cH - 0),.slice aH ((wid DD c.Ag.xs).length) cH,.slice (some ⟨b21,0,none⟩) cs.length cC,.slice aW ws.length cW,.slice (some ⟨b16,0,none⟩) ps.length cP,.slice aR rs.length cR,.slice aQ qs.length cQ] 30 (0,0)) true
abbrev Ve:Ch:= .blk w2.heap.size (.cells #[i6 c.Frames,i6 c.CJ,i6 c.Kernel,i6 c.Room,.slice (some ⟨b60,0,none⟩) c.Aq.xs.length (cC - 0),.slice aP c.Aa.xs.length (cP - 0),.slice aH c.Ag.xs.length (cH - 0),.slice aH ((wid DD c.Ag.xs).length) cH,.slice (some ⟨b60,0,none⟩) cs.length cC,.slice aW ws.length cW,.slice aP ps.length cP,.slice aR rs.length cR,.slice aQ qs.length cQ] 30 (0,0)) true
abbrev V3:Ch:= .blk w2.heap.size (.cells #[i6 c.Frames,i6 c.CJ,i6 c.Kernel,i6 c.Room,.slice aC c.Aq.xs.length (cC - 0),.slice aP c.Aa.xs.length (cP - 0),.slice aH c.Ag.xs.length (cH - 0),.slice aH ((wid DD c.Ag.xs).length) cH,.slice aC cs.length cC,.slice aW ws.length cW,.slice aP ps.length cP,.slice aR rs.length cR,.slice aQ qs.length cQ] 30 (0,0)) true
abbrev RS:=bk (w2.heap.size+1) #[i6 c.Frames,i6 c.CJ,i6 c.Kernel,i6 c.Room,.slice (some ⟨b21,0,none⟩) c.Aq.xs.length (cC - 0),.slice (some ⟨b16,0,none⟩) c.Aa.xs.length (cP - 0),.slice aH c.Ag.xs.length (cH - 0)] 26
abbrev ZG:Ch:= .blk w34.heap.size (.cells #[i6 ((CO (Kq (Ij c mark) (IntKind.i64.wrap (((gd xR 0).Ba)+(GU mark 3))))).Ai.First),i6 ((CO (Kq (Ij c mark) (IntKind.i64.wrap (((gd xR 0).Ba)+(GU mark 3))))).Ai.Second)] 34 (0,0)) true
abbrev ZbU:=bk (w2.heap.size+1) #[i6 c.Frames,i6 c.CJ,i6 c.Kernel,i6 c.Room,.slice aC c.Aq.xs.length (cC - 0),.slice (some ⟨b16,0,none⟩) c.Aa.xs.length (cP - 0),.slice aH c.Ag.xs.length (cH - 0)] 26
abbrev UJ:=bk (w2.heap.size+1) #[i6 c.Frames,i6 c.CJ,i6 c.Kernel,i6 c.Room,.slice (some ⟨b60,0,none⟩) c.Aq.xs.length (cC - 0),.slice aP c.Aa.xs.length (cP - 0),.slice aH c.Ag.xs.length (cH - 0)] 26
abbrev WB:=bk (w2.heap.size+1) #[i6 c.Frames,i6 c.CJ,i6 c.Kernel,i6 c.Room,.slice aC c.Aq.xs.length (cC - 0),.slice aP c.Aa.xs.length (cP - 0),.slice aH c.Ag.xs.length (cH - 0)] 26
abbrev ZcE:Ch:= .blk w73.heap.size (.cells #[i6 ((CO (Kq c (IntKind.i64.wrap (((gd xR 0).Ba)+(GU mark 3))))).Ai.First),i6 ((CO (Kq c (IntKind.i64.wrap (((gd xR 0).Ba)+(GU mark 3))))).Ai.Second)] 34 (0,0)) true
abbrev ZbL:Ch:= .blk w44.heap.size (.cells #[i6 ((CO (Ij c mark)).Ai.First),i6 ((CO (Ij c mark)).Ai.Second)] 34 (0,0)) true
abbrev Zat:Ch:= .blk w54.heap.size (.cells #[i6 ((CO (Ij c mark)).Ai.First),i6 ((CO (Ij c mark)).Ai.Second)] 34 (0,0)) true
abbrev IY:Ch:= .blk w14.heap.size (.cells #[i6 ((CO c).Ai.First),i6 ((CO c).Ai.Second)] 34 (0,0)) true
abbrev Zdr:Ch:= .blk w83.heap.size (.cells #[i6 ((CO c).Ai.First),i6 ((CO c).Ai.Second)] 34 (0,0)) true
abbrev Zdv:Ch:= .blk w93.heap.size (.cells #[i6 ((CO c).Ai.First),i6 ((CO c).Ai.Second)] 34 (0,0)) true
abbrev I4:Ch:= .blk w5.heap.size (.cells #[i6 ((CO c).Ai.First),i6 ((CO c).Ai.Second)] 34 (0,0)) true
abbrev IK:Ch:= .blk w8.heap.size (.cells #[i6 ((CO c).Ai.First),i6 ((CO c).Ai.Second)] 34 (0,0)) true
abbrev Ie:=bk z (Aj.arr c) 26
abbrev NE:=BJ (z+1) 41 8 Ap.cells (.slice (some ⟨b16,0,none⟩) ps.length cP) (ps.set 0 (⟨(gd ps 0).Name,mark,(gd ps 0).DK,(gd ps 0).AY,(gd ps 0).DI,(gd ps 0).Bi,(gd ps 0).Af,(gd ps 0).Am⟩:Ap))
abbrev XR:=BJ (z+1) 44 3 Au.cells (.slice (some ⟨b25,0,none⟩) xR.length cX) (xR.set 0 (⟨(gd xR 0).Partition,IntKind.i64.wrap (((gd xR 0).Ba)+(GU mark 3)),(gd xR 0).AQ⟩:Au))
abbrev Zaw:=BJ (z+1) 44 3 Au.cells (.slice (some ⟨b64,0,none⟩) xR.length cX) (xR.set 0 (⟨(gd xR 0).Partition,IntKind.i64.wrap (((gd xR 0).Ba)+(GU mark 3)),(gd xR 0).AQ⟩:Au))
abbrev Ip:=BJ (z+1) 55 3 AL.cells (.slice aH ((wid DD c.Ag.xs).length) cH) (wid DD c.Ag.xs)
abbrev Na:=BJ (z+1) 42 1 (fun x:Sl Au=>[Sl.val x]) (.slice (some ⟨b21,0,none⟩) cs.length cC) cs
abbrev P5:=BJ (z+1) 42 1 (fun x:Sl Au=>[Sl.val x]) (.slice (some ⟨b60,0,none⟩) cs.length cC) cs
abbrev Qu:=BJ (z+1) 42 1 (fun x:Sl Au=>[Sl.val x]) (.slice aC cs.length cC) cs
abbrev Ir:=BJ (z+1) 42 1 (fun x:Sl Au=>[Sl.val x]) (.slice aW ws.length cW) ws
abbrev Iq:=BJ (z+1) 38 1 (fun x:Sl A8=>[Sl.val x]) (.slice aR rs.length cR) rs
abbrev Il:=BJ (z+1) 39 1 (fun x:Sl Bh=>[Sl.val x]) (.slice aQ qs.length cQ) qs
abbrev Nb:=BJ (z+1) 41 8 Ap.cells (.slice aP ps.length cP) ps
abbrev Wh:DJ:=(92,.agg #[i6 c.Frames,i6 c.CJ,i6 c.Kernel,i6 c.Room,.slice (some ⟨b21,0,none⟩) c.Aq.xs.length (cC - 0),.slice (some ⟨b16,0,none⟩) c.Aa.xs.length (cP - 0),.slice aH c.Ag.xs.length (cH - 0)])
abbrev Y3:DJ:=(98,.agg #[i6 c.Frames,i6 c.CJ,i6 c.Kernel,i6 c.Room,.slice (some ⟨b21,0,none⟩) c.Aq.xs.length (cC - 0),.slice (some ⟨b16,0,none⟩) c.Aa.xs.length (cP - 0),.slice aH c.Ag.xs.length (cH - 0)])
abbrev Zam:DJ:=(92,.agg #[i6 c.Frames,i6 c.CJ,i6 c.Kernel,i6 c.Room,.slice (some ⟨b60,0,none⟩) c.Aq.xs.length (cC - 0),.slice aP c.Aa.xs.length (cP - 0),.slice aH c.Ag.xs.length (cH - 0)])
abbrev ZaE:DJ:=(98,.agg #[i6 c.Frames,i6 c.CJ,i6 c.Kernel,i6 c.Room,.slice (some ⟨b60,0,none⟩) c.Aq.xs.length (cC - 0),.slice aP c.Aa.xs.length (cP - 0),.slice aH c.Ag.xs.length (cH - 0)])
abbrev Gw:=(6,pt (w2.heap.size+1))
end
theorem checks_calls(w:World)(hL:JM w)(c:Aj)(hc:Aj.ok Any w c)(hLim:TD c)(mark:Int)(hmk:Hy .i64 mark):Calls Tryd.prog 3 #[.agg (Aj.arr c),.int .i64 mark] w fun e w'=>e = .returned (.bool true)∧CP (fun _=>False) w w':=by
 obtain⟨z,hz⟩:∃ z,z=w.heap.size:=⟨_,rfl⟩
 refine CE (args:=[.agg (Aj.arr c),i6 mark]) 110 ⟨w,z,[(Ak w)]⟩ Tryd.func3 rfl (by kernel_rfl) (by kernel_rfl) (Ep hz) ?_
 have hpl:=hc.Aa.1.len;have hpc:=hc.Aq.1.len
 refine DC [0,1] [(0,.agg (Aj.arr c)),(1,i6 mark)] ?_
 refine q_c 6 1 [] [[o0,o0],[(an 7 1)]] [Qb z,Qb z,Qb z,Qb z,Qb z,Qb z,Qb z] [(1,i6 mark),(2,pt z),(17,.agg (Aj.arr c))] ⟨w,z+1,[(Ak w),(Ie c z)]⟩ rfl ⟨rfl,rfl,rfl,rfl,rfl,rfl,rfl,Ae⟩ ?_
 refine l_call [] [] 7 #[.agg (Aj.arr c)] (some 18) Ae ?_
 intro w1 hw1
 refine(lend_calls w1 c (hc.ext (hw1.ext rfl) (fun _ h=>h)) hLim).mono ?_
 rintro e w2 ⟨L,sp,rfl,hI0,hO0,hkw2⟩
 rw[hw1.size]at hO0;obtain⟨aH,cH,aC,cC,cs,aW,cW,ws,aP,cP,ps,aR,cR,rs,aQ,cQ,qs,rfl,hcor,hprt⟩:=lent_form hI0;clear hI0;obtain⟨w0O,hO⟩:=hO0
 have hnw2:z+1≤w2.heap.size:=Fg hw1 hkw2
 have hl1:=hcor.l1;have hl2:=hcor.l2;have hl3:=hprt.l1;have hnum:=num_of hc
 rw[Zdn hl1 hl3]
 refine⟨_,_,rfl,hw1.keepsO hkw2 hO (lent_new hO), ?_⟩
 refine EY 8 1 [] [[o0,(an 13 12)],[o0,(an 7 12),o0,(an 7 13)],[(an 7 1)]] [Qb w2.heap.size,Qb w2.heap.size,Qb w2.heap.size,Qb w2.heap.size,Qb w2.heap.size,Qb w2.heap.size,Qb w2.heap.size,Qb w2.heap.size,Qb w2.heap.size,Qb w2.heap.size,Qb w2.heap.size,Qb w2.heap.size,Qb w2.heap.size,Qb w2.heap.size,Qb w2.heap.size,Qb w2.heap.size,Qb w2.heap.size,Qb w2.heap.size,Qb w2.heap.size,Qb w2.heap.size,Qb (w2.heap.size+1),Qb (w2.heap.size+1),Qb (w2.heap.size+1),Qb (w2.heap.size+1),Qb (w2.heap.size+1),Qb (w2.heap.size+1),Qb (w2.heap.size+1),Qb z,Qb z,Qb z,Qb z,Qb z,Qb z,Qb z] [(1,i6 mark),(2,pt z),(5,pt w2.heap.size),(Gw w2),(22,.agg (Aj.arr c))] ⟨w,w2.heap.size+2,[(Ak w),(Ie c z),(Ip c aH cH z),(Qu cC cs aC z),(Ir aW ws cW z),(Be (z+1) 44 3 Au.cells ws),(Be (z+1) 44 3 Au.cells sp),(Nb cP ps aP z),(Iq aR rs cR z),(Be (z+1) 49 4 A8.cells rs),(Il aQ qs cQ z),(Be (z+1) 57 2 Bh.cells qs),(V3 w2 c cC cP aH cH cs aW ws cW ps aR rs cR aQ qs cQ aP aC),(WB w2 c cC cP aH cH aP aC)]⟩ rfl ⟨rfl,rfl,rfl,rfl,rfl,rfl,rfl,rfl,rfl,rfl,rfl,rfl,rfl,rfl,rfl,rfl,rfl,rfl,rfl,rfl,rfl,rfl,rfl,rfl,rfl,rfl,rfl,rfl,rfl,rfl,rfl,rfl,rfl,rfl,Ae⟩ ?_
 refine l_call [] [] 8 #[.agg (Aj.arr c)] (some 23) Ae ?_
 intro w3 hw3
 have hrc4:=N7 w3 c (hc.ext (hw3.ext rfl) (fun _ h=>h))
 refine hrc4.mono ?_
 rintro e w5 ⟨rfl,hkw5⟩
 have hnw5:w2.heap.size+2≤w5.heap.size:=Fg hw3 hkw5
 refine⟨_,_,rfl,hw3.keeps hkw5, ?_⟩
 refine EY 4 1 [] [[o0,o0,o0,o0,o0,(an 2 14)],[(an 7 13)]] [Qb w5.heap.size,Qb w5.heap.size,Qb (w2.heap.size+1),Qb (w2.heap.size+1),Qb (w2.heap.size+1),Qb (w2.heap.size+1),Qb (w2.heap.size+1),Qb (w2.heap.size+1),Qb (w2.heap.size+1)] [(1,i6 mark),(2,pt z),(5,pt w2.heap.size),(Gw w2),(8,pt w5.heap.size),(7,i6 ((CO c).e)),(27,.agg #[i6 c.Frames,i6 c.CJ,i6 c.Kernel,i6 c.Room,.slice aC c.Aq.xs.length (cC - 0),.slice aP c.Aa.xs.length (cP - 0),.slice aH c.Ag.xs.length (cH - 0)])] ⟨w,w5.heap.size+1,[(Ak w),(Ie c z),(Ip c aH cH z),(Qu cC cs aC z),(Ir aW ws cW z),(Be (z+1) 44 3 Au.cells ws),(Be (z+1) 44 3 Au.cells sp),(Nb cP ps aP z),(Iq aR rs cR z),(Be (z+1) 49 4 A8.cells rs),(Il aQ qs cQ z),(Be (z+1) 57 2 Bh.cells qs),(V3 w2 c cC cP aH cH cs aW ws cW ps aR rs cR aQ qs cQ aP aC),(WB w2 c cC cP aH cH aP aC),(I4 c w5)]⟩ rfl ⟨rfl,rfl,rfl,rfl,rfl,rfl,rfl,rfl,rfl,Ae⟩ ?_
 refine l_call [] [] 9 #[.agg #[i6 c.Frames,i6 c.CJ,i6 c.Kernel,i6 c.Room,.slice aC c.Aq.xs.length (cC - 0),.slice aP c.Aa.xs.length (cP - 0),.slice aH c.Ag.xs.length (cH - 0)]] (some 28) Ae ?_
 intro w6 hw6
 have hq7:=hw6.pick [2,3,4,5,6,7,8,9,10,11] rfl rfl
 refine(NV aH cH aC cC aW cW aP cP aR cR aQ cQ hnum hLim hcor hprt hq7 (hL.ext (hw6.ext rfl)) rfl rfl).mono ?_
 rintro e w8 ⟨rfl,hkw8⟩
 have hnw8:w5.heap.size+1≤w8.heap.size:=Fg hw6 hkw8
 refine⟨_,_,rfl,hw6.keeps hkw8, ?_⟩
 refine EY 5 11 [] [[o0,o0,o0,o0,o0,(an 2 15)],[o0,o0,oF,o0,(an 2 15),(an 2 14),⟨.seq true,none⟩,o0,o0,(an 13 12),(an 7 1)]] [Qb w8.heap.size,Qb w8.heap.size,NF ((CO c).e) ((CO c).e),Qb w8.heap.size,Qb w8.heap.size,Qb w5.heap.size,Qb w5.heap.size,(((CO c).Ai.First:Int)==((CO c).Ai.First:Int)&&(((CO c).Ai.Second:Int)==((CO c).Ai.Second:Int)&&true))=true,Qb w2.heap.size,Qb w2.heap.size,Qb w2.heap.size,Qb w2.heap.size,Qb w2.heap.size,Qb w2.heap.size,Qb w2.heap.size,Qb w2.heap.size,Qb w2.heap.size,Qb w2.heap.size,Qb w2.heap.size,Qb w2.heap.size,Qb w2.heap.size,Qb z,Qb z,Qb z,Qb z,Qb z,Qb z,Qb z] [(1,i6 mark),(Gw w2),(8,pt w5.heap.size),(7,i6 ((CO c).e)),(39,.bool false),(40,.agg #[i6 c.Frames,i6 c.CJ,i6 c.Kernel,i6 c.Room,.slice aC c.Aq.xs.length (cC - 0),.slice aP c.Aa.xs.length (cP - 0),.slice aH c.Ag.xs.length (cH - 0),.slice aH ((wid DD c.Ag.xs).length) cH,.slice aC cs.length cC,.slice aW ws.length cW,.slice aP ps.length cP,.slice aR rs.length cR,.slice aQ qs.length cQ]),(41,.agg (Aj.arr c))] ⟨w,w8.heap.size+1,[(Ak w),(Ie c z),(Ip c aH cH z),(Qu cC cs aC z),(Ir aW ws cW z),(Be (z+1) 44 3 Au.cells ws),(Be (z+1) 44 3 Au.cells sp),(Nb cP ps aP z),(Iq aR rs cR z),(Be (z+1) 49 4 A8.cells rs),(Il aQ qs cQ z),(Be (z+1) 57 2 Bh.cells qs),(V3 w2 c cC cP aH cH cs aW ws cW ps aR rs cR aQ qs cQ aP aC),(WB w2 c cC cP aH cH aP aC),(I4 c w5),(IK c w8)]⟩ rfl ⟨rfl,rfl,nf,rfl,rfl,rfl,rfl,(by simp),rfl,rfl,rfl,rfl,rfl,rfl,rfl,rfl,rfl,rfl,rfl,rfl,rfl,rfl,rfl,rfl,rfl,rfl,rfl,rfl,Ae⟩ ?_
 refine l_call [] [] 10 #[.agg #[i6 c.Frames,i6 c.CJ,i6 c.Kernel,i6 c.Room,.slice aC c.Aq.xs.length (cC - 0),.slice aP c.Aa.xs.length (cP - 0),.slice aH c.Ag.xs.length (cH - 0),.slice aH ((wid DD c.Ag.xs).length) cH,.slice aC cs.length cC,.slice aW ws.length cW,.slice aP ps.length cP,.slice aR rs.length cR,.slice aQ qs.length cQ],.agg (Aj.arr c)] (some 42) Ae ?_
 intro w9 hw9
 have hq10:=hw9.pick [2,3,4,5,6,7,8,9,10,11] rfl rfl
 refine(leaf_kept aH cH aC cC aW cW aP cP aR cR aQ cQ hnum hLim hcor hprt hq10 (hc.ext (hw9.ext rfl) (fun _ h=>h))).mono ?_
 rintro e w11 ⟨rfl,hkw11⟩
 have hnw11:w8.heap.size+1≤w11.heap.size:=Fg hw9 hkw11
 refine⟨_,_,rfl,hw9.keeps hkw11, ?_⟩
 refine BP 7 1 [0] [[o0,o0],[(an 7 13)]] [Qb (w2.heap.size+1),Qb (w2.heap.size+1),Qb (w2.heap.size+1),Qb (w2.heap.size+1),Qb (w2.heap.size+1),Qb (w2.heap.size+1),Qb (w2.heap.size+1)] [(1,i6 mark),(Gw w2),(8,pt w5.heap.size),(7,i6 ((CO c).e)),(46,.agg #[i6 c.Frames,i6 c.CJ,i6 c.Kernel,i6 c.Room,.slice aC c.Aq.xs.length (cC - 0),.slice aP c.Aa.xs.length (cP - 0),.slice aH c.Ag.xs.length (cH - 0)])] rfl ⟨rfl,rfl,rfl,rfl,rfl,rfl,rfl,Ae⟩ ?_
 refine l_call [] [] 9 #[.agg #[i6 c.Frames,i6 c.CJ,i6 c.Kernel,i6 c.Room,.slice aC c.Aq.xs.length (cC - 0),.slice aP c.Aa.xs.length (cP - 0),.slice aH c.Ag.xs.length (cH - 0)]] (some 47) Ae ?_
 intro w12 hw12
 have hq13:=hw12.pick [2,3,4,5,6,7,8,9,10,11] rfl rfl
 refine(NV aH cH aC cC aW cW aP cP aR cR aQ cQ hnum hLim hcor hprt hq13 (hL.ext (hw12.ext rfl)) rfl rfl).mono ?_
 rintro e w14 ⟨rfl,hkw14⟩
 have hnw14:w11.heap.size≤w14.heap.size:=Fg hw12 hkw14
 refine⟨_,_,rfl,hw12.keeps hkw14, ?_⟩
 refine EY 12 0 [0] [[o0,o0,o0,o0,o0,(an 2 16)],[o0,o0,oF,o0,(an 2 16),(an 2 14),⟨.seq true,none⟩,o0]] [Qb w14.heap.size,Qb w14.heap.size,NF ((CO c).e) ((CO c).e),Qb w14.heap.size,Qb w14.heap.size,Qb w5.heap.size,Qb w5.heap.size,(((CO c).Ai.First:Int)==((CO c).Ai.First:Int)&&(((CO c).Ai.Second:Int)==((CO c).Ai.Second:Int)&&true))=true] [(1,i6 mark),(Gw w2),(57,.bool false)] ⟨w,w14.heap.size+1,[(Ak w),(Ie c z),(Ip c aH cH z),(Qu cC cs aC z),(Ir aW ws cW z),(Be (z+1) 44 3 Au.cells ws),(Be (z+1) 44 3 Au.cells sp),(Nb cP ps aP z),(Iq aR rs cR z),(Be (z+1) 49 4 A8.cells rs),(Il aQ qs cQ z),(Be (z+1) 57 2 Bh.cells qs),(V3 w2 c cC cP aH cH cs aW ws cW ps aR rs cR aQ qs cQ aP aC),(WB w2 c cC cP aH cH aP aC),(I4 c w5),(IK c w8),(IY c w14)]⟩ rfl ⟨rfl,rfl,nf,rfl,rfl,rfl,rfl,(by simp),Ae⟩ ?_
 by_cases h15:(0:Int)<(c.Aa.xs.length:Int)
 ·refine Az 4 0 [1] [[o0,(a1 13),o0,oT]] [Qb (w2.heap.size+1),BT ((c.Aa.xs.length:Int) > 0)] [(1,i6 mark),(Gw w2),(61,.bool true)] rfl ⟨rfl,bt,Ae⟩ ?_
  refine KI (base:=(z+1)) (e:=41) (sz:=8) (cells:=Ap.cells) (a:=aP) (n:=ps.length) (cap:=cP) (xs:=ps) 7 (by first | omega | (simp only[Nc];omega)) (fun b16 hg17 hb18 => ?_)
  subst hg17
  refine Az 1 5 [] [[o0,(a1 13),o0,(oi 0),o0]] [Qb (w2.heap.size+1),(0:Int)=((0:Nat):Int),0<c.Aa.xs.length,BN] [(1,i6 mark),(Gw w2),(64,i6 mark),(66,.pointer (some ⟨b16,0+Gi 8 0+1,none⟩))] rfl ⟨rfl,rfl,(by omega),rfl,Ae⟩ ?_
  refine MH 7 0 1 ps (⟨(gd ps 0).Name,mark,(gd ps 0).DK,(gd ps 0).AY,(gd ps 0).DI,(gd ps 0).Bi,(gd ps 0).Af,(gd ps 0).Am⟩:Ap) Ap.cells (z+1) 41 8 b16 ps.length cP (i6 mark) none (by omega) rfl ?_
  have hch19p:=prt_chgP (m:=mark) hprt (by omega) (by omega);have hch19c:=cor_chgP (m:=mark) hcor;have hch19n:=num_chgP hnum hmk;have hch19l:=lim_chgP (m:=mark) hLim
  have hch19q:=hch19p;rw[←show(Ij c mark).Aa.xs.length=c.Aa.xs.length from JE]at hch19q
  refine Dc [1,6] [(1,i6 mark),(Gw w2)] ?_
  refine TU (by kernel_rfl) ?_
  refine IM <| Ce <| Ce ?_
  by_cases h20:(0:Int)<(c.Aq.xs.length:Int)
  ·have hcs0:=hch19c.c1 0 (by omega) (show 0<c.Aq.xs.length by omega)
   refine KI (base:=(z+1)) (e:=42) (sz:=1) (cells:=(fun x:Sl Au=>[Sl.val x])) (a:=aC) (n:=cs.length) (cap:=cC) (xs:=cs) 3 (by first | omega | (simp only[Nc];omega)) (fun b21 hg22 hb23 => ?_)
   subst hg22
   by_cases h24:(0:Int)<(((gd c.Aq.xs 0).xs.length:Nat):Int)
   ·refine Az 4 0 [1] [[o0,(a1 13),o0,oT,o0,o0,(a1 13),(oi 0),(oa [.via 3 (.slice ((gd ws 0).a) ((gd c.Aq.xs 0).xs.length) ((gd ws 0).cap - 0))]),o0,oT,o0]] [Qb (w2.heap.size+1),BT ((c.Aq.xs.length:Int) > 0),Qb (w2.heap.size+1),(0:Int)=((0:Nat):Int),0<c.Aq.xs.length,BN,∀ w',Ch.holds (Na b21 cC cs z) w'→w'.cell? ⟨b21,0,none⟩=some (.slice ((gd ws 0).a) ((gd c.Aq.xs 0).xs.length) ((gd ws 0).cap - 0)),BT (((((gd c.Aq.xs 0).xs.length:Nat):Int):Int) > 0)] [(1,i6 mark),(Gw w2),(78,.bool true)] rfl ⟨rfl,bt,rfl,rfl,(by omega),rfl,Ha (sz:=1) (j:=0) (k:=0) (fun _=>rfl) (by omega) (by show some (Sl.val _)=_;rw[hcs0];rfl),bt,Ae⟩ ?_
    obtain⟨⟨aX,cX,xR⟩,hyx⟩:∃ x_:Sl Au,x_=gd ws 0:=⟨_,rfl⟩
    have hyr:=hyx.symm;have hxw:=hch19c.w1 0 (by omega) (show 0<c.Aq.xs.length by omega);rw[hyr]at hcs0 hxw;have hxl:xR.length=(gd c.Aq.xs 0).xs.length+24:=by(rw[show xR=_ from hxw,Nc];try rfl)
    refine WW 5 [0,1,2,3,4,6,7,8,9,10,11,12,13,14,15,16] (z+1) 44 3 Au.cells ws 0 ⟨aX,cX,xR⟩ hyx (by omega) [(Ak w),(Ie c z),(Ip c aH cH z),(Na b21 cC cs z),(Ir aW ws cW z),(Be (z+1) 44 3 Au.cells sp),(NE b16 cP ps mark z),(Iq aR rs cR z),(Be (z+1) 49 4 A8.cells rs),(Il aQ qs cQ z),(Be (z+1) 57 2 Bh.cells qs),(SB w2 c b21 cC b16 cP aH cH cs aW ws cW ps aR rs cR aQ qs cQ),(RS w2 c b21 cC b16 cP aH cH),(I4 c w5),(IK c w8),(IY c w14)] ?_
    refine KI (base:=(z+1)) (e:=44) (sz:=3) (cells:=Au.cells) (a:=aX) (n:=xR.length) (cap:=cX) (xs:=xR) 17 (by first | omega | (simp only[Nc];omega)) (fun b25 hg26 hb27 => ?_)
    subst hg26
    refine Az 1 12 [] [[o0,(a1 12),(oi 0),(oa [.via 3 (.slice (some ⟨b25,0,none⟩) ((gd c.Aq.xs 0).xs.length) (cX - 0))]),(oi 0),o0,(oa [.via 17 (i6 ((gd xR 0).Ba))]),o0,o0,o0,(oi 0),o0]] [Qb (w2.heap.size+1),(0:Int)=((0:Nat):Int),0<c.Aq.xs.length,BN,∀ w',Ch.holds (Na b21 cC cs z) w'→w'.cell? ⟨b21,0,none⟩=some (.slice (some ⟨b25,0,none⟩) ((gd c.Aq.xs 0).xs.length) (cX - 0)),(0:Int)=((0:Nat):Int),0<(gd c.Aq.xs 0).xs.length,BN,∀ w',Ch.holds (BJ (z+1) 44 3 Au.cells (.slice (some ⟨b25,0,none⟩) xR.length cX) xR) w'→w'.cell? ⟨b25,0+Gi 3 0+1,none⟩=some (i6 ((gd xR 0).Ba)),(0:Int)=((0:Nat):Int),0<(gd c.Aq.xs 0).xs.length,BN] [(Gw w2),(88,i6 (IntKind.i64.wrap (((gd xR 0).Ba)+(GU mark 3)))),(90,.pointer (some ⟨b25,0+Gi 3 0+1,none⟩))] rfl ⟨rfl,rfl,(by omega),rfl,Ha (sz:=1) (j:=0) (k:=0) (fun _=>rfl) (by omega) (by show some (Sl.val _)=_;rw[hcs0];rfl),rfl,(by omega),rfl,Ha (sz:=3) (j:=0) (k:=1) (fun _=>rfl) (by omega) rfl,rfl,(by omega),rfl,Ae⟩ ?_
    refine MH 17 0 1 xR (⟨(gd xR 0).Partition,IntKind.i64.wrap (((gd xR 0).Ba)+(GU mark 3)),(gd xR 0).AQ⟩:Au) Au.cells (z+1) 44 3 b25 xR.length cX (i6 (IntKind.i64.wrap (((gd xR 0).Ba)+(GU mark 3)))) none (by omega) rfl ?_
    have hch28c:=Zco (u:=(IntKind.i64.wrap (((gd xR 0).Ba)+(GU mark 3)))) hch19c (show 0<c.Aq.xs.length by omega) (show 0<(gd c.Aq.xs 0).xs.length by omega) (by omega) hyr;rw[←show(Kq (Ij c mark) (IntKind.i64.wrap (((gd xR 0).Ba)+(GU mark 3)))).Aq.xs.length=c.Aq.xs.length from L6]at hch28c
    have hch28p:=Zcp (u:=(IntKind.i64.wrap (((gd xR 0).Ba)+(GU mark 3)))) hch19q;have hch28n:=Zcw (u:=(IntKind.i64.wrap (((gd xR 0).Ba)+(GU mark 3)))) hch19n (ZbE _);have hch28l:=ZcN (u:=(IntKind.i64.wrap (((gd xR 0).Ba)+(GU mark 3)))) hch19l
    have hch28e:Sl.val (⟨(some ⟨b25,0,none⟩),cX - 0,N9 (gd (Ij c mark).Aq.xs 0).xs (IntKind.i64.wrap (((gd xR 0).Ba)+(GU mark 3)))⟩:Sl Au)=Sl.val (gd cs 0):=by rw[hcs0];show Value.slice _ (N9 _ _).length _=_;rw[UB];rfl
    have hch28f:Sl.val (⟨(some ⟨b25,0,none⟩),cX,N9 xR (IntKind.i64.wrap (((gd xR 0).Ba)+(GU mark 3)))⟩:Sl Au)=Sl.val (gd ws 0):=by rw[hyr];show Value.slice _ (N9 _ _).length _=_;rw[UB];rfl
    refine BP 4 1 [] [[],[(an 7 12)]] [Qb (w2.heap.size+1),Qb (w2.heap.size+1),Qb (w2.heap.size+1),Qb (w2.heap.size+1),Qb (w2.heap.size+1),Qb (w2.heap.size+1),Qb (w2.heap.size+1)] [(Gw w2),(Wh c b21 cC b16 cP aH cH)] rfl ⟨rfl,rfl,rfl,rfl,rfl,rfl,rfl,Ae⟩ ?_
    refine l_call [] [] 11 #[.agg #[i6 c.Frames,i6 c.CJ,i6 c.Kernel,i6 c.Room,.slice (some ⟨b21,0,none⟩) c.Aq.xs.length (cC - 0),.slice (some ⟨b16,0,none⟩) c.Aa.xs.length (cP - 0),.slice aH c.Ag.xs.length (cH - 0)]] (some 93) Ae ?_
    intro w29 hw29
    have hq30:=hw29
    (try dsimp only[SB,RS,IY,I4,IK,Ie,NE,Ip,Na,Ir,Iq,Il,Wh,Gw]at hq30)
    rw[show xR.length=((xR.set 0 (⟨(gd xR 0).Partition,IntKind.i64.wrap (((gd xR 0).Ba)+(GU mark 3)),(gd xR 0).AQ⟩:Au))).length from(by rw[List.length_set])]at hq30
    replace hq30:=(hq30.ZJ 16 17 [0,1,2,3,4,5,6,7,8,9,10,11,12,13,14,15] 0 (by omega) rfl rfl (by decide) rfl rfl rfl rfl).pick [2,3,4,16,5,6,7,8,9,10] rfl rfl
    refine(QR aH cH (some ⟨b21,0,none⟩) cC aW cW (some ⟨b16,0,none⟩) cP aR cR aQ cQ hch28n hch28l hch28c hch28p (by rw[PO,PT hch28e,PT hch28f];(try simp only[List.length_set,OL]);exact hq30) L6 JE).mono ?_
    rintro e w31 ⟨d2,rfl,hsd3,ho2,hkw31⟩
    have hnw31:w14.heap.size+1≤w31.heap.size:=Fg hw29 hkw31
    refine⟨_,_,rfl,hw29.Qi hkw31, ?_⟩
    refine Dc [6,93] [(Gw w2),(93,.agg (Aj.arr d2))] ?_
    refine l_call [] [] 8 #[.agg (Aj.arr d2)] (some 94) Ae ?_
    intro w32 hw32
    have hrc33:=N7 w32 d2 (ho2.ext (hw32.Za6 18) (fun _ _=>trivial))
    rw[OT hsd3]at hrc33
    refine hrc33.mono ?_
    rintro e w34 ⟨rfl,hkw34⟩
    have hnw34:w31.heap.size≤w34.heap.size:=Fg hw32 hkw34
    refine⟨_,_,rfl,hw32.keeps hkw34, ?_⟩
    refine EY 4 1 [] [[o0,o0,o0,o0,o0,(an 2 19)],[(an 7 12)]] [Qb w34.heap.size,Qb w34.heap.size,Qb (w2.heap.size+1),Qb (w2.heap.size+1),Qb (w2.heap.size+1),Qb (w2.heap.size+1),Qb (w2.heap.size+1),Qb (w2.heap.size+1),Qb (w2.heap.size+1)] [(14,pt w34.heap.size),(13,i6 ((CO (Kq (Ij c mark) (IntKind.i64.wrap (((gd xR 0).Ba)+(GU mark 3))))).e)),(Y3 c b21 cC b16 cP aH cH)] ⟨w,w34.heap.size+1,[(Ak w),(Ie c z),(Ip c aH cH z),(Na b21 cC cs z),(Ir aW ws cW z),(Be (z+1) 44 3 Au.cells sp),(NE b16 cP ps mark z),(Iq aR rs cR z),(Be (z+1) 49 4 A8.cells rs),(Il aQ qs cQ z),(Be (z+1) 57 2 Bh.cells qs),(SB w2 c b21 cC b16 cP aH cH cs aW ws cW ps aR rs cR aQ qs cQ),(RS w2 c b21 cC b16 cP aH cH),(I4 c w5),(IK c w8),(IY c w14),(Be (z+1) 44 3 Au.cells (ws.eraseIdx 0)),(XR mark xR z b25 cX),(mid (w14.heap.size+1) w31),(ZG c w34 mark xR)]⟩ rfl ⟨rfl,rfl,rfl,rfl,rfl,rfl,rfl,rfl,rfl,Ae⟩ ?_
    refine l_call [] [] 9 #[.agg #[i6 c.Frames,i6 c.CJ,i6 c.Kernel,i6 c.Room,.slice (some ⟨b21,0,none⟩) c.Aq.xs.length (cC - 0),.slice (some ⟨b16,0,none⟩) c.Aa.xs.length (cP - 0),.slice aH c.Ag.xs.length (cH - 0)]] (some 99) Ae ?_
    intro w35 hw35
    have hq36:=hw35
    (try dsimp only[SB,RS,ZG,IY,I4,IK,Ie,NE,XR,Ip,Na,Ir,Iq,Il,Y3,Gw]at hq36)
    rw[show xR.length=((xR.set 0 (⟨(gd xR 0).Partition,IntKind.i64.wrap (((gd xR 0).Ba)+(GU mark 3)),(gd xR 0).AQ⟩:Au))).length from(by rw[List.length_set])]at hq36
    replace hq36:=(hq36.ZJ 16 17 [0,1,2,3,4,5,6,7,8,9,10,11,12,13,14,15,18,19] 0 (by omega) rfl rfl (by decide) rfl rfl rfl rfl).pick [2,3,4,18,5,6,7,8,9,10] rfl rfl
    refine(NV aH cH (some ⟨b21,0,none⟩) cC aW cW (some ⟨b16,0,none⟩) cP aR cR aQ cQ hch28n hch28l hch28c hch28p (by rw[PO,PT hch28e,PT hch28f];(try simp only[List.length_set,OL]);exact hq36) (hL.ext (hw35.ext rfl)) L6 JE).mono ?_
    rintro e w37 ⟨rfl,hkw37⟩
    have hnw37:w34.heap.size+1≤w37.heap.size:=Fg hw35 hkw37
    refine⟨_,_,rfl,hw35.keeps hkw37, ?_⟩
    refine EY 7 0 [] [[o0,o0,o0,o0,o0,(an 2 20)],[o0,o0,oT,o0,(an 2 20),(an 2 19),⟨.seq true,none⟩,o0,o0]] [Qb w37.heap.size,Qb w37.heap.size,ET ((CO (Kq (Ij c mark) (IntKind.i64.wrap (((gd xR 0).Ba)+(GU mark 3))))).e) ((CO (Kq (Ij c mark) (IntKind.i64.wrap (((gd xR 0).Ba)+(GU mark 3))))).e),Qb w37.heap.size,Qb w37.heap.size,Qb w34.heap.size,Qb w34.heap.size,(((CO (Kq (Ij c mark) (IntKind.i64.wrap (((gd xR 0).Ba)+(GU mark 3))))).Ai.First:Int)==((CO (Kq (Ij c mark) (IntKind.i64.wrap (((gd xR 0).Ba)+(GU mark 3))))).Ai.First:Int)&&(((CO (Kq (Ij c mark) (IntKind.i64.wrap (((gd xR 0).Ba)+(GU mark 3))))).Ai.Second:Int)==((CO (Kq (Ij c mark) (IntKind.i64.wrap (((gd xR 0).Ba)+(GU mark 3))))).Ai.Second:Int)&&true))=true] [(4,.bool true)] ⟨w,w37.heap.size+1,[(Ak w),(Ie c z),(Ip c aH cH z),(Na b21 cC cs z),(Ir aW ws cW z),(Be (z+1) 44 3 Au.cells sp),(NE b16 cP ps mark z),(Iq aR rs cR z),(Be (z+1) 49 4 A8.cells rs),(Il aQ qs cQ z),(Be (z+1) 57 2 Bh.cells qs),(SB w2 c b21 cC b16 cP aH cH cs aW ws cW ps aR rs cR aQ qs cQ),(RS w2 c b21 cC b16 cP aH cH),(I4 c w5),(IK c w8),(IY c w14),(Be (z+1) 44 3 Au.cells (ws.eraseIdx 0)),(XR mark xR z b25 cX),(mid (w14.heap.size+1) w31),(ZG c w34 mark xR),(.blk w37.heap.size (.cells #[i6 ((CO (Kq (Ij c mark) (IntKind.i64.wrap (((gd xR 0).Ba)+(GU mark 3))))).Ai.First),i6 ((CO (Kq (Ij c mark) (IntKind.i64.wrap (((gd xR 0).Ba)+(GU mark 3))))).Ai.Second)] 34 (0,0)) true)]⟩ rfl ⟨rfl,rfl,et,rfl,rfl,rfl,rfl,(by simp),Ae⟩ ?_
    refine AA [] [] (.bool true) Ae ?_
    intro w38 hw38
    exact⟨rfl,AO hw38⟩
   refine Az 8 1 [0] [[o0,(a1 13),o0,oT,o0,o0,(a1 13),(oi 0),(oa [.via 3 (.slice ((gd ws 0).a) ((gd c.Aq.xs 0).xs.length) ((gd ws 0).cap - 0))]),o0,oF,o0],[(an 7 13)]] [Qb (w2.heap.size+1),BT ((c.Aq.xs.length:Int) > 0),Qb (w2.heap.size+1),(0:Int)=((0:Nat):Int),0<c.Aq.xs.length,BN,∀ w',Ch.holds (Na b21 cC cs z) w'→w'.cell? ⟨b21,0,none⟩=some (.slice ((gd ws 0).a) ((gd c.Aq.xs 0).xs.length) ((gd ws 0).cap - 0)),BF (((((gd c.Aq.xs 0).xs.length:Nat):Int):Int) > 0),Qb (w2.heap.size+1),Qb (w2.heap.size+1),Qb (w2.heap.size+1),Qb (w2.heap.size+1),Qb (w2.heap.size+1),Qb (w2.heap.size+1),Qb (w2.heap.size+1)] [(Gw w2),(Wh c b21 cC b16 cP aH cH)] rfl ⟨rfl,bt,rfl,rfl,(by omega),rfl,Ha (sz:=1) (j:=0) (k:=0) (fun _=>rfl) (by omega) (by show some (Sl.val _)=_;rw[hcs0];rfl),bf,rfl,rfl,rfl,rfl,rfl,rfl,rfl,Ae⟩ ?_
   refine l_call [] [] 11 #[.agg #[i6 c.Frames,i6 c.CJ,i6 c.Kernel,i6 c.Room,.slice (some ⟨b21,0,none⟩) c.Aq.xs.length (cC - 0),.slice (some ⟨b16,0,none⟩) c.Aa.xs.length (cP - 0),.slice aH c.Ag.xs.length (cH - 0)]] (some 93) Ae ?_
   intro w39 hw39
   have hq40:=hw39.pick [2,3,4,5,6,7,8,9,10,11] rfl rfl
   (try dsimp only[SB,RS,ZG,IY,I4,IK,Ie,NE,XR,Ip,Na,Ir,Iq,Il,Wh,Gw]at hq40)
   refine(QR aH cH (some ⟨b21,0,none⟩) cC aW cW (some ⟨b16,0,none⟩) cP aR cR aQ cQ hch19n hch19l hch19c hch19q (by rw[PO];(try simp only[List.length_set,OL]);exact hq40) rfl JE).mono ?_
   rintro e w41 ⟨d2,rfl,hsd3,ho2,hkw41⟩
   have hnw41:w14.heap.size+1≤w41.heap.size:=Fg hw39 hkw41
   refine⟨_,_,rfl,hw39.Qi hkw41, ?_⟩
   refine Dc [6,93] [(Gw w2),(93,.agg (Aj.arr d2))] ?_
   refine l_call [] [] 8 #[.agg (Aj.arr d2)] (some 94) Ae ?_
   intro w42 hw42
   have hrc43:=N7 w42 d2 (ho2.ext (hw42.Za6 17) (fun _ _=>trivial))
   rw[OT hsd3]at hrc43
   refine hrc43.mono ?_
   rintro e w44 ⟨rfl,hkw44⟩
   have hnw44:w41.heap.size≤w44.heap.size:=Fg hw42 hkw44
   refine⟨_,_,rfl,hw42.keeps hkw44, ?_⟩
   refine EY 4 1 [] [[o0,o0,o0,o0,o0,(an 2 18)],[(an 7 13)]] [Qb w44.heap.size,Qb w44.heap.size,Qb (w2.heap.size+1),Qb (w2.heap.size+1),Qb (w2.heap.size+1),Qb (w2.heap.size+1),Qb (w2.heap.size+1),Qb (w2.heap.size+1),Qb (w2.heap.size+1)] [(14,pt w44.heap.size),(13,i6 ((CO (Ij c mark)).e)),(Y3 c b21 cC b16 cP aH cH)] ⟨w,w44.heap.size+1,[(Ak w),(Ie c z),(Ip c aH cH z),(Na b21 cC cs z),(Ir aW ws cW z),(Be (z+1) 44 3 Au.cells ws),(Be (z+1) 44 3 Au.cells sp),(NE b16 cP ps mark z),(Iq aR rs cR z),(Be (z+1) 49 4 A8.cells rs),(Il aQ qs cQ z),(Be (z+1) 57 2 Bh.cells qs),(SB w2 c b21 cC b16 cP aH cH cs aW ws cW ps aR rs cR aQ qs cQ),(RS w2 c b21 cC b16 cP aH cH),(I4 c w5),(IK c w8),(IY c w14),(mid (w14.heap.size+1) w41),(ZbL c mark w44)]⟩ rfl ⟨rfl,rfl,rfl,rfl,rfl,rfl,rfl,rfl,rfl,Ae⟩ ?_
   refine l_call [] [] 9 #[.agg #[i6 c.Frames,i6 c.CJ,i6 c.Kernel,i6 c.Room,.slice (some ⟨b21,0,none⟩) c.Aq.xs.length (cC - 0),.slice (some ⟨b16,0,none⟩) c.Aa.xs.length (cP - 0),.slice aH c.Ag.xs.length (cH - 0)]] (some 99) Ae ?_
   intro w45 hw45
   have hq46:=hw45.pick [2,3,4,5,6,7,8,9,10,11] rfl rfl
   (try dsimp only[SB,RS,ZbL,IY,I4,IK,Ie,NE,Ip,Na,Ir,Iq,Il,Y3,Gw]at hq46)
   refine(NV aH cH (some ⟨b21,0,none⟩) cC aW cW (some ⟨b16,0,none⟩) cP aR cR aQ cQ hch19n hch19l hch19c hch19q (by rw[PO];(try simp only[List.length_set,OL]);exact hq46) (hL.ext (hw45.ext rfl)) rfl JE).mono ?_
   rintro e w47 ⟨rfl,hkw47⟩
   have hnw47:w44.heap.size+1≤w47.heap.size:=Fg hw45 hkw47
   refine⟨_,_,rfl,hw45.keeps hkw47, ?_⟩
   refine EY 7 0 [] [[o0,o0,o0,o0,o0,(an 2 19)],[o0,o0,oT,o0,(an 2 19),(an 2 18),⟨.seq true,none⟩,o0,o0]] [Qb w47.heap.size,Qb w47.heap.size,ET ((CO (Ij c mark)).e) ((CO (Ij c mark)).e),Qb w47.heap.size,Qb w47.heap.size,Qb w44.heap.size,Qb w44.heap.size,(((CO (Ij c mark)).Ai.First:Int)==((CO (Ij c mark)).Ai.First:Int)&&(((CO (Ij c mark)).Ai.Second:Int)==((CO (Ij c mark)).Ai.Second:Int)&&true))=true] [(4,.bool true)] ⟨w,w47.heap.size+1,[(Ak w),(Ie c z),(Ip c aH cH z),(Na b21 cC cs z),(Ir aW ws cW z),(Be (z+1) 44 3 Au.cells ws),(Be (z+1) 44 3 Au.cells sp),(NE b16 cP ps mark z),(Iq aR rs cR z),(Be (z+1) 49 4 A8.cells rs),(Il aQ qs cQ z),(Be (z+1) 57 2 Bh.cells qs),(SB w2 c b21 cC b16 cP aH cH cs aW ws cW ps aR rs cR aQ qs cQ),(RS w2 c b21 cC b16 cP aH cH),(I4 c w5),(IK c w8),(IY c w14),(mid (w14.heap.size+1) w41),(ZbL c mark w44),(.blk w47.heap.size (.cells #[i6 ((CO (Ij c mark)).Ai.First),i6 ((CO (Ij c mark)).Ai.Second)] 34 (0,0)) true)]⟩ rfl ⟨rfl,rfl,et,rfl,rfl,rfl,rfl,(by simp),Ae⟩ ?_
   refine AA [] [] (.bool true) Ae ?_
   intro w48 hw48
   exact⟨rfl,AO hw48⟩
  refine Az 8 1 [0] [[o0,(a1 13),o0,oF,o0,o0],[(an 7 13)]] [Qb (w2.heap.size+1),BF ((c.Aq.xs.length:Int) > 0),Qb (w2.heap.size+1),Qb (w2.heap.size+1),Qb (w2.heap.size+1),Qb (w2.heap.size+1),Qb (w2.heap.size+1),Qb (w2.heap.size+1),Qb (w2.heap.size+1)] [(Gw w2),(92,.agg #[i6 c.Frames,i6 c.CJ,i6 c.Kernel,i6 c.Room,.slice aC c.Aq.xs.length (cC - 0),.slice (some ⟨b16,0,none⟩) c.Aa.xs.length (cP - 0),.slice aH c.Ag.xs.length (cH - 0)])] rfl ⟨rfl,bf,rfl,rfl,rfl,rfl,rfl,rfl,rfl,Ae⟩ ?_
  refine l_call [] [] 11 #[.agg #[i6 c.Frames,i6 c.CJ,i6 c.Kernel,i6 c.Room,.slice aC c.Aq.xs.length (cC - 0),.slice (some ⟨b16,0,none⟩) c.Aa.xs.length (cP - 0),.slice aH c.Ag.xs.length (cH - 0)]] (some 93) Ae ?_
  intro w49 hw49
  have hq50:=hw49.pick [2,3,4,5,6,7,8,9,10,11] rfl rfl
  (try dsimp only[Na,Wh,Gw]at hq50)
  refine(QR aH cH aC cC aW cW (some ⟨b16,0,none⟩) cP aR cR aQ cQ hch19n hch19l hch19c hch19q (by rw[PO];(try simp only[List.length_set,OL]);exact hq50) rfl JE).mono ?_
  rintro e w51 ⟨d2,rfl,hsd3,ho2,hkw51⟩
  have hnw51:w14.heap.size+1≤w51.heap.size:=Fg hw49 hkw51
  refine⟨_,_,rfl,hw49.Qi hkw51, ?_⟩
  refine Dc [6,93] [(Gw w2),(93,.agg (Aj.arr d2))] ?_
  refine l_call [] [] 8 #[.agg (Aj.arr d2)] (some 94) Ae ?_
  intro w52 hw52
  have hrc53:=N7 w52 d2 (ho2.ext (hw52.Za6 17) (fun _ _=>trivial))
  rw[OT hsd3]at hrc53
  refine hrc53.mono ?_
  rintro e w54 ⟨rfl,hkw54⟩
  have hnw54:w51.heap.size≤w54.heap.size:=Fg hw52 hkw54
  refine⟨_,_,rfl,hw52.keeps hkw54, ?_⟩
  refine EY 4 1 [] [[o0,o0,o0,o0,o0,(an 2 18)],[(an 7 13)]] [Qb w54.heap.size,Qb w54.heap.size,Qb (w2.heap.size+1),Qb (w2.heap.size+1),Qb (w2.heap.size+1),Qb (w2.heap.size+1),Qb (w2.heap.size+1),Qb (w2.heap.size+1),Qb (w2.heap.size+1)] [(14,pt w54.heap.size),(13,i6 ((CO (Ij c mark)).e)),(98,.agg #[i6 c.Frames,i6 c.CJ,i6 c.Kernel,i6 c.Room,.slice aC c.Aq.xs.length (cC - 0),.slice (some ⟨b16,0,none⟩) c.Aa.xs.length (cP - 0),.slice aH c.Ag.xs.length (cH - 0)])] ⟨w,w54.heap.size+1,[(Ak w),(Ie c z),(Ip c aH cH z),(Qu cC cs aC z),(Ir aW ws cW z),(Be (z+1) 44 3 Au.cells ws),(Be (z+1) 44 3 Au.cells sp),(NE b16 cP ps mark z),(Iq aR rs cR z),(Be (z+1) 49 4 A8.cells rs),(Il aQ qs cQ z),(Be (z+1) 57 2 Bh.cells qs),(.blk w2.heap.size (.cells #[i6 c.Frames,i6 c.CJ,i6 c.Kernel,i6 c.Room,.slice aC c.Aq.xs.length (cC - 0),.slice (some ⟨b16,0,none⟩) c.Aa.xs.length (cP - 0),.slice aH c.Ag.xs.length (cH - 0),.slice aH ((wid DD c.Ag.xs).length) cH,.slice aC cs.length cC,.slice aW ws.length cW,.slice (some ⟨b16,0,none⟩) ps.length cP,.slice aR rs.length cR,.slice aQ qs.length cQ] 30 (0,0)) true),(ZbU w2 c cC b16 cP aH cH aC),(I4 c w5),(IK c w8),(IY c w14),(mid (w14.heap.size+1) w51),(Zat c mark w54)]⟩ rfl ⟨rfl,rfl,rfl,rfl,rfl,rfl,rfl,rfl,rfl,Ae⟩ ?_
  refine l_call [] [] 9 #[.agg #[i6 c.Frames,i6 c.CJ,i6 c.Kernel,i6 c.Room,.slice aC c.Aq.xs.length (cC - 0),.slice (some ⟨b16,0,none⟩) c.Aa.xs.length (cP - 0),.slice aH c.Ag.xs.length (cH - 0)]] (some 99) Ae ?_
  intro w55 hw55
  have hq56:=hw55.pick [2,3,4,5,6,7,8,9,10,11] rfl rfl
  (try dsimp only[ZbU,Zat,IY,I4,IK,Ie,NE,Ip,Qu,Ir,Iq,Il,Gw]at hq56)
  refine(NV aH cH aC cC aW cW (some ⟨b16,0,none⟩) cP aR cR aQ cQ hch19n hch19l hch19c hch19q (by rw[PO];(try simp only[List.length_set,OL]);exact hq56) (hL.ext (hw55.ext rfl)) rfl JE).mono ?_
  rintro e w57 ⟨rfl,hkw57⟩
  have hnw57:w54.heap.size+1≤w57.heap.size:=Fg hw55 hkw57
  refine⟨_,_,rfl,hw55.keeps hkw57, ?_⟩
  refine EY 7 0 [] [[o0,o0,o0,o0,o0,(an 2 19)],[o0,o0,oT,o0,(an 2 19),(an 2 18),⟨.seq true,none⟩,o0,o0]] [Qb w57.heap.size,Qb w57.heap.size,ET ((CO (Ij c mark)).e) ((CO (Ij c mark)).e),Qb w57.heap.size,Qb w57.heap.size,Qb w54.heap.size,Qb w54.heap.size,(((CO (Ij c mark)).Ai.First:Int)==((CO (Ij c mark)).Ai.First:Int)&&(((CO (Ij c mark)).Ai.Second:Int)==((CO (Ij c mark)).Ai.Second:Int)&&true))=true] [(4,.bool true)] ⟨w,w57.heap.size+1,[(Ak w),(Ie c z),(Ip c aH cH z),(Qu cC cs aC z),(Ir aW ws cW z),(Be (z+1) 44 3 Au.cells ws),(Be (z+1) 44 3 Au.cells sp),(NE b16 cP ps mark z),(Iq aR rs cR z),(Be (z+1) 49 4 A8.cells rs),(Il aQ qs cQ z),(Be (z+1) 57 2 Bh.cells qs),(.blk w2.heap.size (.cells #[i6 c.Frames,i6 c.CJ,i6 c.Kernel,i6 c.Room,.slice aC c.Aq.xs.length (cC - 0),.slice (some ⟨b16,0,none⟩) c.Aa.xs.length (cP - 0),.slice aH c.Ag.xs.length (cH - 0),.slice aH ((wid DD c.Ag.xs).length) cH,.slice aC cs.length cC,.slice aW ws.length cW,.slice (some ⟨b16,0,none⟩) ps.length cP,.slice aR rs.length cR,.slice aQ qs.length cQ] 30 (0,0)) true),(ZbU w2 c cC b16 cP aH cH aC),(I4 c w5),(IK c w8),(IY c w14),(mid (w14.heap.size+1) w51),(Zat c mark w54),(.blk w57.heap.size (.cells #[i6 ((CO (Ij c mark)).Ai.First),i6 ((CO (Ij c mark)).Ai.Second)] 34 (0,0)) true)]⟩ rfl ⟨rfl,rfl,et,rfl,rfl,rfl,rfl,(by simp),Ae⟩ ?_
  refine AA [] [] (.bool true) Ae ?_
  intro w58 hw58
  exact⟨rfl,AO hw58⟩
 refine Az 8 0 [0] [[o0,(a1 13),o0,oF]] [Qb (w2.heap.size+1),BF ((c.Aa.xs.length:Int) > 0)] [(1,i6 mark),(Gw w2),(61,.bool false)] rfl ⟨rfl,bf,Ae⟩ ?_
 by_cases h59:(0:Int)<(c.Aq.xs.length:Int)
 ·have hcs0:=hcor.c1 0 (by omega) (show 0<c.Aq.xs.length by omega)
  refine KI (base:=(z+1)) (e:=42) (sz:=1) (cells:=(fun x:Sl Au=>[Sl.val x])) (a:=aC) (n:=cs.length) (cap:=cC) (xs:=cs) 3 (by first | omega | (simp only[Nc];omega)) (fun b60 hg61 hb62 => ?_)
  subst hg61
  by_cases h63:(0:Int)<(((gd c.Aq.xs 0).xs.length:Nat):Int)
  ·refine Az 4 0 [1] [[o0,(a1 13),o0,oT,o0,o0,(a1 13),(oi 0),(oa [.via 3 (.slice ((gd ws 0).a) ((gd c.Aq.xs 0).xs.length) ((gd ws 0).cap - 0))]),o0,oT,o0]] [Qb (w2.heap.size+1),BT ((c.Aq.xs.length:Int) > 0),Qb (w2.heap.size+1),(0:Int)=((0:Nat):Int),0<c.Aq.xs.length,BN,∀ w',Ch.holds (P5 cC cs b60 z) w'→w'.cell? ⟨b60,0,none⟩=some (.slice ((gd ws 0).a) ((gd c.Aq.xs 0).xs.length) ((gd ws 0).cap - 0)),BT (((((gd c.Aq.xs 0).xs.length:Nat):Int):Int) > 0)] [(1,i6 mark),(Gw w2),(78,.bool true)] rfl ⟨rfl,bt,rfl,rfl,(by omega),rfl,Ha (sz:=1) (j:=0) (k:=0) (fun _=>rfl) (by omega) (by show some (Sl.val _)=_;rw[hcs0];rfl),bt,Ae⟩ ?_
   obtain⟨⟨aX,cX,xR⟩,hyx⟩:∃ x_:Sl Au,x_=gd ws 0:=⟨_,rfl⟩
   have hyr:=hyx.symm;have hxw:=hcor.w1 0 (by omega) (show 0<c.Aq.xs.length by omega);rw[hyr]at hcs0 hxw;have hxl:xR.length=(gd c.Aq.xs 0).xs.length+24:=by(rw[show xR=_ from hxw,Nc];try rfl)
   refine WW 5 [0,1,2,3,4,6,7,8,9,10,11,12,13,14,15,16] (z+1) 44 3 Au.cells ws 0 ⟨aX,cX,xR⟩ hyx (by omega) [(Ak w),(Ie c z),(Ip c aH cH z),(P5 cC cs b60 z),(Ir aW ws cW z),(Be (z+1) 44 3 Au.cells sp),(Nb cP ps aP z),(Iq aR rs cR z),(Be (z+1) 49 4 A8.cells rs),(Il aQ qs cQ z),(Be (z+1) 57 2 Bh.cells qs),(Ve w2 c cC cP aH cH cs aW ws cW ps aR rs cR aQ qs cQ b60 aP),(UJ w2 c cC cP aH cH b60 aP),(I4 c w5),(IK c w8),(IY c w14)] ?_
   refine KI (base:=(z+1)) (e:=44) (sz:=3) (cells:=Au.cells) (a:=aX) (n:=xR.length) (cap:=cX) (xs:=xR) 17 (by first | omega | (simp only[Nc];omega)) (fun b64 hg65 hb66 => ?_)
   subst hg65
   refine Az 1 12 [] [[o0,(a1 12),(oi 0),(oa [.via 3 (.slice (some ⟨b64,0,none⟩) ((gd c.Aq.xs 0).xs.length) (cX - 0))]),(oi 0),o0,(oa [.via 17 (i6 ((gd xR 0).Ba))]),o0,o0,o0,(oi 0),o0]] [Qb (w2.heap.size+1),(0:Int)=((0:Nat):Int),0<c.Aq.xs.length,BN,∀ w',Ch.holds (P5 cC cs b60 z) w'→w'.cell? ⟨b60,0,none⟩=some (.slice (some ⟨b64,0,none⟩) ((gd c.Aq.xs 0).xs.length) (cX - 0)),(0:Int)=((0:Nat):Int),0<(gd c.Aq.xs 0).xs.length,BN,∀ w',Ch.holds (BJ (z+1) 44 3 Au.cells (.slice (some ⟨b64,0,none⟩) xR.length cX) xR) w'→w'.cell? ⟨b64,0+Gi 3 0+1,none⟩=some (i6 ((gd xR 0).Ba)),(0:Int)=((0:Nat):Int),0<(gd c.Aq.xs 0).xs.length,BN] [(Gw w2),(88,i6 (IntKind.i64.wrap (((gd xR 0).Ba)+(GU mark 3)))),(90,.pointer (some ⟨b64,0+Gi 3 0+1,none⟩))] rfl ⟨rfl,rfl,(by omega),rfl,Ha (sz:=1) (j:=0) (k:=0) (fun _=>rfl) (by omega) (by show some (Sl.val _)=_;rw[hcs0];rfl),rfl,(by omega),rfl,Ha (sz:=3) (j:=0) (k:=1) (fun _=>rfl) (by omega) rfl,rfl,(by omega),rfl,Ae⟩ ?_
   refine MH 17 0 1 xR (⟨(gd xR 0).Partition,IntKind.i64.wrap (((gd xR 0).Ba)+(GU mark 3)),(gd xR 0).AQ⟩:Au) Au.cells (z+1) 44 3 b64 xR.length cX (i6 (IntKind.i64.wrap (((gd xR 0).Ba)+(GU mark 3)))) none (by omega) rfl ?_
   have hch67c:=Zco (u:=(IntKind.i64.wrap (((gd xR 0).Ba)+(GU mark 3)))) hcor (show 0<c.Aq.xs.length by omega) (show 0<(gd c.Aq.xs 0).xs.length by omega) (by omega) hyr;rw[←show(Kq c (IntKind.i64.wrap (((gd xR 0).Ba)+(GU mark 3)))).Aq.xs.length=c.Aq.xs.length from L6]at hch67c
   have hch67p:=Zcp (u:=(IntKind.i64.wrap (((gd xR 0).Ba)+(GU mark 3)))) hprt;have hch67n:=Zcw (u:=(IntKind.i64.wrap (((gd xR 0).Ba)+(GU mark 3)))) hnum (ZbE _);have hch67l:=ZcN (u:=(IntKind.i64.wrap (((gd xR 0).Ba)+(GU mark 3)))) hLim
   have hch67e:Sl.val (⟨(some ⟨b64,0,none⟩),cX - 0,N9 (gd c.Aq.xs 0).xs (IntKind.i64.wrap (((gd xR 0).Ba)+(GU mark 3)))⟩:Sl Au)=Sl.val (gd cs 0):=by rw[hcs0];show Value.slice _ (N9 _ _).length _=_;rw[UB];rfl
   have hch67f:Sl.val (⟨(some ⟨b64,0,none⟩),cX,N9 xR (IntKind.i64.wrap (((gd xR 0).Ba)+(GU mark 3)))⟩:Sl Au)=Sl.val (gd ws 0):=by rw[hyr];show Value.slice _ (N9 _ _).length _=_;rw[UB];rfl
   refine BP 4 1 [] [[],[(an 7 12)]] [Qb (w2.heap.size+1),Qb (w2.heap.size+1),Qb (w2.heap.size+1),Qb (w2.heap.size+1),Qb (w2.heap.size+1),Qb (w2.heap.size+1),Qb (w2.heap.size+1)] [(Gw w2),(Zam c cC cP aH cH b60 aP)] rfl ⟨rfl,rfl,rfl,rfl,rfl,rfl,rfl,Ae⟩ ?_
   refine l_call [] [] 11 #[.agg #[i6 c.Frames,i6 c.CJ,i6 c.Kernel,i6 c.Room,.slice (some ⟨b60,0,none⟩) c.Aq.xs.length (cC - 0),.slice aP c.Aa.xs.length (cP - 0),.slice aH c.Ag.xs.length (cH - 0)]] (some 93) Ae ?_
   intro w68 hw68
   have hq69:=hw68
   (try dsimp only[Ve,UJ,IY,I4,IK,Ie,Ip,P5,Ir,Iq,Il,Nb,Zam,Gw]at hq69)
   rw[show xR.length=((xR.set 0 (⟨(gd xR 0).Partition,IntKind.i64.wrap (((gd xR 0).Ba)+(GU mark 3)),(gd xR 0).AQ⟩:Au))).length from(by rw[List.length_set])]at hq69
   replace hq69:=(hq69.ZJ 16 17 [0,1,2,3,4,5,6,7,8,9,10,11,12,13,14,15] 0 (by omega) rfl rfl (by decide) rfl rfl rfl rfl).pick [2,3,4,16,5,6,7,8,9,10] rfl rfl
   refine(QR aH cH (some ⟨b60,0,none⟩) cC aW cW aP cP aR cR aQ cQ hch67n hch67l hch67c hch67p (by rw[PO,PT hch67e,PT hch67f];(try simp only[List.length_set,OL]);exact hq69) L6 rfl).mono ?_
   rintro e w70 ⟨d2,rfl,hsd3,ho2,hkw70⟩
   have hnw70:w14.heap.size+1≤w70.heap.size:=Fg hw68 hkw70
   refine⟨_,_,rfl,hw68.Qi hkw70, ?_⟩
   refine Dc [6,93] [(Gw w2),(93,.agg (Aj.arr d2))] ?_
   refine l_call [] [] 8 #[.agg (Aj.arr d2)] (some 94) Ae ?_
   intro w71 hw71
   have hrc72:=N7 w71 d2 (ho2.ext (hw71.Za6 18) (fun _ _=>trivial))
   rw[OT hsd3]at hrc72
   refine hrc72.mono ?_
   rintro e w73 ⟨rfl,hkw73⟩
   have hnw73:w70.heap.size≤w73.heap.size:=Fg hw71 hkw73
   refine⟨_,_,rfl,hw71.keeps hkw73, ?_⟩
   refine EY 4 1 [] [[o0,o0,o0,o0,o0,(an 2 19)],[(an 7 12)]] [Qb w73.heap.size,Qb w73.heap.size,Qb (w2.heap.size+1),Qb (w2.heap.size+1),Qb (w2.heap.size+1),Qb (w2.heap.size+1),Qb (w2.heap.size+1),Qb (w2.heap.size+1),Qb (w2.heap.size+1)] [(14,pt w73.heap.size),(13,i6 ((CO (Kq c (IntKind.i64.wrap (((gd xR 0).Ba)+(GU mark 3))))).e)),(ZaE c cC cP aH cH b60 aP)] ⟨w,w73.heap.size+1,[(Ak w),(Ie c z),(Ip c aH cH z),(P5 cC cs b60 z),(Ir aW ws cW z),(Be (z+1) 44 3 Au.cells sp),(Nb cP ps aP z),(Iq aR rs cR z),(Be (z+1) 49 4 A8.cells rs),(Il aQ qs cQ z),(Be (z+1) 57 2 Bh.cells qs),(Ve w2 c cC cP aH cH cs aW ws cW ps aR rs cR aQ qs cQ b60 aP),(UJ w2 c cC cP aH cH b60 aP),(I4 c w5),(IK c w8),(IY c w14),(Be (z+1) 44 3 Au.cells (ws.eraseIdx 0)),(Zaw mark xR z cX b64),(mid (w14.heap.size+1) w70),(ZcE c mark xR w73)]⟩ rfl ⟨rfl,rfl,rfl,rfl,rfl,rfl,rfl,rfl,rfl,Ae⟩ ?_
   refine l_call [] [] 9 #[.agg #[i6 c.Frames,i6 c.CJ,i6 c.Kernel,i6 c.Room,.slice (some ⟨b60,0,none⟩) c.Aq.xs.length (cC - 0),.slice aP c.Aa.xs.length (cP - 0),.slice aH c.Ag.xs.length (cH - 0)]] (some 99) Ae ?_
   intro w74 hw74
   have hq75:=hw74
   (try dsimp only[Ve,UJ,ZcE,IY,I4,IK,Ie,Zaw,Ip,P5,Ir,Iq,Il,Nb,ZaE,Gw]at hq75)
   rw[show xR.length=((xR.set 0 (⟨(gd xR 0).Partition,IntKind.i64.wrap (((gd xR 0).Ba)+(GU mark 3)),(gd xR 0).AQ⟩:Au))).length from(by rw[List.length_set])]at hq75
   replace hq75:=(hq75.ZJ 16 17 [0,1,2,3,4,5,6,7,8,9,10,11,12,13,14,15,18,19] 0 (by omega) rfl rfl (by decide) rfl rfl rfl rfl).pick [2,3,4,18,5,6,7,8,9,10] rfl rfl
   refine(NV aH cH (some ⟨b60,0,none⟩) cC aW cW aP cP aR cR aQ cQ hch67n hch67l hch67c hch67p (by rw[PO,PT hch67e,PT hch67f];(try simp only[List.length_set,OL]);exact hq75) (hL.ext (hw74.ext rfl)) L6 rfl).mono ?_
   rintro e w76 ⟨rfl,hkw76⟩
   have hnw76:w73.heap.size+1≤w76.heap.size:=Fg hw74 hkw76
   refine⟨_,_,rfl,hw74.keeps hkw76, ?_⟩
   refine EY 7 0 [] [[o0,o0,o0,o0,o0,(an 2 20)],[o0,o0,oT,o0,(an 2 20),(an 2 19),⟨.seq true,none⟩,o0,o0]] [Qb w76.heap.size,Qb w76.heap.size,ET ((CO (Kq c (IntKind.i64.wrap (((gd xR 0).Ba)+(GU mark 3))))).e) ((CO (Kq c (IntKind.i64.wrap (((gd xR 0).Ba)+(GU mark 3))))).e),Qb w76.heap.size,Qb w76.heap.size,Qb w73.heap.size,Qb w73.heap.size,(((CO (Kq c (IntKind.i64.wrap (((gd xR 0).Ba)+(GU mark 3))))).Ai.First:Int)==((CO (Kq c (IntKind.i64.wrap (((gd xR 0).Ba)+(GU mark 3))))).Ai.First:Int)&&(((CO (Kq c (IntKind.i64.wrap (((gd xR 0).Ba)+(GU mark 3))))).Ai.Second:Int)==((CO (Kq c (IntKind.i64.wrap (((gd xR 0).Ba)+(GU mark 3))))).Ai.Second:Int)&&true))=true] [(4,.bool true)] ⟨w,w76.heap.size+1,[(Ak w),(Ie c z),(Ip c aH cH z),(P5 cC cs b60 z),(Ir aW ws cW z),(Be (z+1) 44 3 Au.cells sp),(Nb cP ps aP z),(Iq aR rs cR z),(Be (z+1) 49 4 A8.cells rs),(Il aQ qs cQ z),(Be (z+1) 57 2 Bh.cells qs),(Ve w2 c cC cP aH cH cs aW ws cW ps aR rs cR aQ qs cQ b60 aP),(UJ w2 c cC cP aH cH b60 aP),(I4 c w5),(IK c w8),(IY c w14),(Be (z+1) 44 3 Au.cells (ws.eraseIdx 0)),(Zaw mark xR z cX b64),(mid (w14.heap.size+1) w70),(ZcE c mark xR w73),(.blk w76.heap.size (.cells #[i6 ((CO (Kq c (IntKind.i64.wrap (((gd xR 0).Ba)+(GU mark 3))))).Ai.First),i6 ((CO (Kq c (IntKind.i64.wrap (((gd xR 0).Ba)+(GU mark 3))))).Ai.Second)] 34 (0,0)) true)]⟩ rfl ⟨rfl,rfl,et,rfl,rfl,rfl,rfl,(by simp),Ae⟩ ?_
   refine AA [] [] (.bool true) Ae ?_
   intro w77 hw77
   exact⟨rfl,AO hw77⟩
  refine Az 8 1 [0] [[o0,(a1 13),o0,oT,o0,o0,(a1 13),(oi 0),(oa [.via 3 (.slice ((gd ws 0).a) ((gd c.Aq.xs 0).xs.length) ((gd ws 0).cap - 0))]),o0,oF,o0],[(an 7 13)]] [Qb (w2.heap.size+1),BT ((c.Aq.xs.length:Int) > 0),Qb (w2.heap.size+1),(0:Int)=((0:Nat):Int),0<c.Aq.xs.length,BN,∀ w',Ch.holds (P5 cC cs b60 z) w'→w'.cell? ⟨b60,0,none⟩=some (.slice ((gd ws 0).a) ((gd c.Aq.xs 0).xs.length) ((gd ws 0).cap - 0)),BF (((((gd c.Aq.xs 0).xs.length:Nat):Int):Int) > 0),Qb (w2.heap.size+1),Qb (w2.heap.size+1),Qb (w2.heap.size+1),Qb (w2.heap.size+1),Qb (w2.heap.size+1),Qb (w2.heap.size+1),Qb (w2.heap.size+1)] [(Gw w2),(Zam c cC cP aH cH b60 aP)] rfl ⟨rfl,bt,rfl,rfl,(by omega),rfl,Ha (sz:=1) (j:=0) (k:=0) (fun _=>rfl) (by omega) (by show some (Sl.val _)=_;rw[hcs0];rfl),bf,rfl,rfl,rfl,rfl,rfl,rfl,rfl,Ae⟩ ?_
  refine l_call [] [] 11 #[.agg #[i6 c.Frames,i6 c.CJ,i6 c.Kernel,i6 c.Room,.slice (some ⟨b60,0,none⟩) c.Aq.xs.length (cC - 0),.slice aP c.Aa.xs.length (cP - 0),.slice aH c.Ag.xs.length (cH - 0)]] (some 93) Ae ?_
  intro w78 hw78
  have hq79:=hw78.pick [2,3,4,5,6,7,8,9,10,11] rfl rfl
  refine(QR aH cH (some ⟨b60,0,none⟩) cC aW cW aP cP aR cR aQ cQ hnum hLim hcor hprt hq79 rfl rfl).mono ?_
  rintro e w80 ⟨d2,rfl,hsd3,ho2,hkw80⟩
  have hnw80:w14.heap.size+1≤w80.heap.size:=Fg hw78 hkw80
  refine⟨_,_,rfl,hw78.Qi hkw80, ?_⟩
  refine Dc [6,93] [(Gw w2),(93,.agg (Aj.arr d2))] ?_
  refine l_call [] [] 8 #[.agg (Aj.arr d2)] (some 94) Ae ?_
  intro w81 hw81
  have hrc82:=N7 w81 d2 (ho2.ext (hw81.Za6 17) (fun _ _=>trivial))
  rw[OT hsd3]at hrc82
  refine hrc82.mono ?_
  rintro e w83 ⟨rfl,hkw83⟩
  have hnw83:w80.heap.size≤w83.heap.size:=Fg hw81 hkw83
  refine⟨_,_,rfl,hw81.keeps hkw83, ?_⟩
  refine EY 4 1 [] [[o0,o0,o0,o0,o0,(an 2 18)],[(an 7 13)]] [Qb w83.heap.size,Qb w83.heap.size,Qb (w2.heap.size+1),Qb (w2.heap.size+1),Qb (w2.heap.size+1),Qb (w2.heap.size+1),Qb (w2.heap.size+1),Qb (w2.heap.size+1),Qb (w2.heap.size+1)] [(14,pt w83.heap.size),(13,i6 ((CO c).e)),(ZaE c cC cP aH cH b60 aP)] ⟨w,w83.heap.size+1,[(Ak w),(Ie c z),(Ip c aH cH z),(P5 cC cs b60 z),(Ir aW ws cW z),(Be (z+1) 44 3 Au.cells ws),(Be (z+1) 44 3 Au.cells sp),(Nb cP ps aP z),(Iq aR rs cR z),(Be (z+1) 49 4 A8.cells rs),(Il aQ qs cQ z),(Be (z+1) 57 2 Bh.cells qs),(Ve w2 c cC cP aH cH cs aW ws cW ps aR rs cR aQ qs cQ b60 aP),(UJ w2 c cC cP aH cH b60 aP),(I4 c w5),(IK c w8),(IY c w14),(mid (w14.heap.size+1) w80),(Zdr c w83)]⟩ rfl ⟨rfl,rfl,rfl,rfl,rfl,rfl,rfl,rfl,rfl,Ae⟩ ?_
  refine l_call [] [] 9 #[.agg #[i6 c.Frames,i6 c.CJ,i6 c.Kernel,i6 c.Room,.slice (some ⟨b60,0,none⟩) c.Aq.xs.length (cC - 0),.slice aP c.Aa.xs.length (cP - 0),.slice aH c.Ag.xs.length (cH - 0)]] (some 99) Ae ?_
  intro w84 hw84
  have hq85:=hw84.pick [2,3,4,5,6,7,8,9,10,11] rfl rfl
  refine(NV aH cH (some ⟨b60,0,none⟩) cC aW cW aP cP aR cR aQ cQ hnum hLim hcor hprt hq85 (hL.ext (hw84.ext rfl)) rfl rfl).mono ?_
  rintro e w86 ⟨rfl,hkw86⟩
  have hnw86:w83.heap.size+1≤w86.heap.size:=Fg hw84 hkw86
  refine⟨_,_,rfl,hw84.keeps hkw86, ?_⟩
  refine EY 7 0 [] [[o0,o0,o0,o0,o0,(an 2 19)],[o0,o0,oT,o0,(an 2 19),(an 2 18),⟨.seq true,none⟩,o0,o0]] [Qb w86.heap.size,Qb w86.heap.size,ET ((CO c).e) ((CO c).e),Qb w86.heap.size,Qb w86.heap.size,Qb w83.heap.size,Qb w83.heap.size,(((CO c).Ai.First:Int)==((CO c).Ai.First:Int)&&(((CO c).Ai.Second:Int)==((CO c).Ai.Second:Int)&&true))=true] [(4,.bool true)] ⟨w,w86.heap.size+1,[(Ak w),(Ie c z),(Ip c aH cH z),(P5 cC cs b60 z),(Ir aW ws cW z),(Be (z+1) 44 3 Au.cells ws),(Be (z+1) 44 3 Au.cells sp),(Nb cP ps aP z),(Iq aR rs cR z),(Be (z+1) 49 4 A8.cells rs),(Il aQ qs cQ z),(Be (z+1) 57 2 Bh.cells qs),(Ve w2 c cC cP aH cH cs aW ws cW ps aR rs cR aQ qs cQ b60 aP),(UJ w2 c cC cP aH cH b60 aP),(I4 c w5),(IK c w8),(IY c w14),(mid (w14.heap.size+1) w80),(Zdr c w83),(.blk w86.heap.size (.cells #[i6 ((CO c).Ai.First),i6 ((CO c).Ai.Second)] 34 (0,0)) true)]⟩ rfl ⟨rfl,rfl,et,rfl,rfl,rfl,rfl,(by simp),Ae⟩ ?_
  refine AA [] [] (.bool true) Ae ?_
  intro w87 hw87
  exact⟨rfl,AO hw87⟩
 refine Az 8 1 [0] [[o0,(a1 13),o0,oF,o0,o0],[(an 7 13)]] [Qb (w2.heap.size+1),BF ((c.Aq.xs.length:Int) > 0),Qb (w2.heap.size+1),Qb (w2.heap.size+1),Qb (w2.heap.size+1),Qb (w2.heap.size+1),Qb (w2.heap.size+1),Qb (w2.heap.size+1),Qb (w2.heap.size+1)] [(Gw w2),(92,.agg #[i6 c.Frames,i6 c.CJ,i6 c.Kernel,i6 c.Room,.slice aC c.Aq.xs.length (cC - 0),.slice aP c.Aa.xs.length (cP - 0),.slice aH c.Ag.xs.length (cH - 0)])] rfl ⟨rfl,bf,rfl,rfl,rfl,rfl,rfl,rfl,rfl,Ae⟩ ?_
 refine l_call [] [] 11 #[.agg #[i6 c.Frames,i6 c.CJ,i6 c.Kernel,i6 c.Room,.slice aC c.Aq.xs.length (cC - 0),.slice aP c.Aa.xs.length (cP - 0),.slice aH c.Ag.xs.length (cH - 0)]] (some 93) Ae ?_
 intro w88 hw88
 have hq89:=hw88.pick [2,3,4,5,6,7,8,9,10,11] rfl rfl
 refine(QR aH cH aC cC aW cW aP cP aR cR aQ cQ hnum hLim hcor hprt hq89 rfl rfl).mono ?_
 rintro e w90 ⟨d2,rfl,hsd3,ho2,hkw90⟩
 have hnw90:w14.heap.size+1≤w90.heap.size:=Fg hw88 hkw90
 refine⟨_,_,rfl,hw88.Qi hkw90, ?_⟩
 refine Dc [6,93] [(Gw w2),(93,.agg (Aj.arr d2))] ?_
 refine l_call [] [] 8 #[.agg (Aj.arr d2)] (some 94) Ae ?_
 intro w91 hw91
 have hrc92:=N7 w91 d2 (ho2.ext (hw91.Za6 17) (fun _ _=>trivial))
 rw[OT hsd3]at hrc92
 refine hrc92.mono ?_
 rintro e w93 ⟨rfl,hkw93⟩
 have hnw93:w90.heap.size≤w93.heap.size:=Fg hw91 hkw93
 refine⟨_,_,rfl,hw91.keeps hkw93, ?_⟩
 refine EY 4 1 [] [[o0,o0,o0,o0,o0,(an 2 18)],[(an 7 13)]] [Qb w93.heap.size,Qb w93.heap.size,Qb (w2.heap.size+1),Qb (w2.heap.size+1),Qb (w2.heap.size+1),Qb (w2.heap.size+1),Qb (w2.heap.size+1),Qb (w2.heap.size+1),Qb (w2.heap.size+1)] [(14,pt w93.heap.size),(13,i6 ((CO c).e)),(98,.agg #[i6 c.Frames,i6 c.CJ,i6 c.Kernel,i6 c.Room,.slice aC c.Aq.xs.length (cC - 0),.slice aP c.Aa.xs.length (cP - 0),.slice aH c.Ag.xs.length (cH - 0)])] ⟨w,w93.heap.size+1,[(Ak w),(Ie c z),(Ip c aH cH z),(Qu cC cs aC z),(Ir aW ws cW z),(Be (z+1) 44 3 Au.cells ws),(Be (z+1) 44 3 Au.cells sp),(Nb cP ps aP z),(Iq aR rs cR z),(Be (z+1) 49 4 A8.cells rs),(Il aQ qs cQ z),(Be (z+1) 57 2 Bh.cells qs),(V3 w2 c cC cP aH cH cs aW ws cW ps aR rs cR aQ qs cQ aP aC),(WB w2 c cC cP aH cH aP aC),(I4 c w5),(IK c w8),(IY c w14),(mid (w14.heap.size+1) w90),(Zdv c w93)]⟩ rfl ⟨rfl,rfl,rfl,rfl,rfl,rfl,rfl,rfl,rfl,Ae⟩ ?_
 refine l_call [] [] 9 #[.agg #[i6 c.Frames,i6 c.CJ,i6 c.Kernel,i6 c.Room,.slice aC c.Aq.xs.length (cC - 0),.slice aP c.Aa.xs.length (cP - 0),.slice aH c.Ag.xs.length (cH - 0)]] (some 99) Ae ?_
 intro w94 hw94
 have hq95:=hw94.pick [2,3,4,5,6,7,8,9,10,11] rfl rfl
 refine(NV aH cH aC cC aW cW aP cP aR cR aQ cQ hnum hLim hcor hprt hq95 (hL.ext (hw94.ext rfl)) rfl rfl).mono ?_
 rintro e w96 ⟨rfl,hkw96⟩
 have hnw96:w93.heap.size+1≤w96.heap.size:=Fg hw94 hkw96
 refine⟨_,_,rfl,hw94.keeps hkw96, ?_⟩
 refine EY 7 0 [] [[o0,o0,o0,o0,o0,(an 2 19)],[o0,o0,oT,o0,(an 2 19),(an 2 18),⟨.seq true,none⟩,o0,o0]] [Qb w96.heap.size,Qb w96.heap.size,ET ((CO c).e) ((CO c).e),Qb w96.heap.size,Qb w96.heap.size,Qb w93.heap.size,Qb w93.heap.size,(((CO c).Ai.First:Int)==((CO c).Ai.First:Int)&&(((CO c).Ai.Second:Int)==((CO c).Ai.Second:Int)&&true))=true] [(4,.bool true)] ⟨w,w96.heap.size+1,[(Ak w),(Ie c z),(Ip c aH cH z),(Qu cC cs aC z),(Ir aW ws cW z),(Be (z+1) 44 3 Au.cells ws),(Be (z+1) 44 3 Au.cells sp),(Nb cP ps aP z),(Iq aR rs cR z),(Be (z+1) 49 4 A8.cells rs),(Il aQ qs cQ z),(Be (z+1) 57 2 Bh.cells qs),(V3 w2 c cC cP aH cH cs aW ws cW ps aR rs cR aQ qs cQ aP aC),(WB w2 c cC cP aH cH aP aC),(I4 c w5),(IK c w8),(IY c w14),(mid (w14.heap.size+1) w90),(Zdv c w93),(.blk w96.heap.size (.cells #[i6 ((CO c).Ai.First),i6 ((CO c).Ai.Second)] 34 (0,0)) true)]⟩ rfl ⟨rfl,rfl,et,rfl,rfl,rfl,rfl,(by simp),Ae⟩ ?_
 refine AA [] [] (.bool true) Ae ?_
 intro w97 hw97
 exact⟨rfl,AO hw97⟩
end Go.Proofs.YtnjhekfgmbpmlaaDoor.Ad
namespace Go.Proofs.YtnjhekfgmbpmlaaDoor.Row
open Go.ChangeShapes Go.WideShapes Go.ChangeAt Go.RowKit
set_option linter.unusedVariables false
section
variable {H:Type}{enc:TypeId×Value→H}{P:Program}
theorem Zb0(hl:laidOutB P=true){W W':World}(hb:Below W.heap.size W W') :
   ∀ {ts:List TypeId} {vs:List Value} {ds:List (DataW H)} {ps:List MemPlace},
     ts.all (fun t=>P.readableRec t&&decide (t<P.types.size))=true→(∀ x∈ps,x.block<W.heap.size) →
     DataW.TrodAll enc P W 0 (fun _=>true) true ts vs ds ps→DataW.TrodAll enc P W' 0 (fun b=>decide (b<W.heap.size)) true ts vs ds ps:=by
 intro ts
 induction ts with
 | nil =>
   intro vs ds ps _ _ h
   obtain⟨rfl,rfl,rfl⟩:=trodAll_nil h
   exact trodAll_mk0
 | cons t ts ih =>
   intro vs ds ps ht hlt h
   obtain⟨v0,vs0,d0,ds0,p0,q0,rfl,rfl,rfl,h0,r0⟩:=trodAll_cons h
   simp only[List.all_cons,Bool.and_eq_true,decide_eq_true_eq]at ht
   refine trodAll_cons_mk (Below.trod hl ht.1.1 ht.1.2 h0 hb (fun x hx=>hlt x (by simp[hx]))) (ih ht.2 (fun x hx=>hlt x (by simp[hx])) r0)
theorem post_true(hl:laidOutB P=true){f:Func}{s:ChangeSpec}{tb:TypeId}{W W':World}{args:Array Value}{ds gs:List (DataW H)}{before:List MemPlace}
   (hts:f.params.toList.all (fun t=>P.readableRec t&&decide (t<P.types.size))=true) (hres:f.resultTypes = #[tb]) (hbool:P.underlying tb=some .bool)
   (hvars:s.vars=[]) (hfn:s.fn H (ds++gs)={ results:=[.lit (.bool true)],args:=ds })
   (hW:DataW.Whole enc P f.params.toList s.vars false W args.toList ds gs before) (bel:Below W.heap.size W W') :
   s.post enc P f false true false false W args (.bool true) W':=by
 have hW':=hW
 obtain⟨p,q,hA,hV,rfl,hfz,hnd⟩:=hW
 rw[hvars]at hV
 obtain⟨rfl,rfl⟩:=trodVars_none hV
 have hlt:∀ x∈p,x.block<W.heap.size:=fun x hx=>hW'.lt x (by simp[hx])
 refine⟨ds,[],_,[],p,[],hW', ?_, ?_, ?_,bel.frame _,fun h=>by cases h⟩
 · rw[hfn,hres];exact trodAll_mk1 (shut_bool hbool _)
 · rw[hfn];exact Zb0 hl bel hts hlt hA
 · rw[hfn,hvars];rfl
end
end Go.Proofs.YtnjhekfgmbpmlaaDoor.Row
