/- Packed: Li, Lz, Ah, Ai, Aj, EngX, Ak, An, EngH, EngZ, Ao, Ap, EngT, Da, Dc, EngR, EngO. No conditions. -/
import Derived.Test.YtnjhekfgmbpmlaaDoorPy3
import Derived.Deep.Slices
import Derived.SizedLaws
import Derived.WideShapes
import Derived.DataReads
import Derived.Lib.SlBytesConst
set_option maxHeartbeats 4000000
namespace Go.Proofs.YtnjhekfgmbpmlaaDoor.Ly
open Go Go.Proofs.YtnjhekfgmbpmlaaDoor.Eng Go.Proofs.YtnjhekfgmbpmlaaDoor.Mem
set_option linter.unusedSimpArgs false
set_option linter.unusedVariables false
set_option maxRecDepth 100000
theorem WJ{c:Aj}{i:Nat}:Et c (i+1)=Et c i+1+(Jq (gd c.Aa.xs i):Int):=rfl
theorem tAt_zero{c:Aj}:Et c 0=(Dl c c.Ag.xs.length+16 - 1) / 16:=rfl
theorem ZaB{n:Nat}{x:Ap}(h:Ew n x=true):∀ i,i<x.Af.xs.length→KO (gd x.Af.xs i)=true:=fun i hi=>by
 rw[F9 hi];exact List.all_eq_true.1 (part_regs h).2 _ (List.getElem_mem hi)
theorem can_yes(w:World)(c:Aj)(hc:Aj.ok Any w c)(h:EK c=true):Calls Tryd.prog 56 #[.agg (Aj.arr c)] w fun e w'=>e = .returned (.bool true)∧CP (fun _=>False) w w':=by
 have:=Zby w c hc
 rwa [h]at this
theorem can_no(w:World)(c:Aj)(hc:Aj.ok Any w c)(h:EK c=false):Calls Tryd.prog 56 #[.agg (Aj.arr c)] w fun e w'=>e = .returned (.bool false)∧CP (fun _=>False) w w':=by
 have:=Zby w c hc
 rwa [h]at this
def layS(n:Nat)(L:IA):List Ch:=[BJ n 95 5 Aw.cells L.Aa.val L.Aa.xs,BJ n 104 5 AC.cells L.Ag.val L.Ag.xs,Be n 106 3 BO.cells (L.Ag.xs.map AC.Ed),Be n 3 1 (fun x:Int=>[Value.int .i64 x]) (L.Aa.xs.map Aw.Tables)]
def Xw(n:Nat)(W:World)(L:IA):Prop:=∃ w0,Sat ⟨w0,W.heap.size,layS n L⟩ W
theorem Yh{c:Aj}{k:Int}{b:Bool}(hp:∀ i,i<c.Aa.xs.length→(gd c.Aa.xs i).Am.xs.length≤8)(h8:c.Aa.xs.length≤8):∀ y∈CQ c k b,0≤y.partition∧y.partition<8∧0≤y.port∧y.port<8:=by
 intro y hy
 unfold CQ Dw at hy
 simp only[List.mem_flatMap,List.mem_range]at hy
 obtain⟨p,hpl,hy⟩:=hy
 unfold CZ at hy
 simp only[List.mem_map,List.mem_filter,List.mem_range]at hy
 obtain⟨q,⟨hq, -⟩,rfl⟩:=hy
 have:=hp p hpl
 simp only
 omega
theorem QC{x:Int}(h:0≤x)(h2:x≤1000000):Hy .i64 x:=⟨by omega,by omega⟩
theorem WE{F:Nat→Prop}{W:World}{c:Aj}{k:Int}{b:Bool}(hf:Fine c):∀ i,i<(CQ c k b).length→GH.ok F W (gd (CQ c k b) i):=fun i hi=>by
 have:=Yh (k:=k) (b:=b) (fun i hi=>OW (hf.parts i hi)) hf.pn (gd (CQ c k b) i) (by rw[F9 hi];exact List.getElem_mem _)
 exact⟨QC (by omega) (by omega),QC (by omega) (by omega)⟩
theorem Sv{α:Type}{base:Nat}{e:TypeId}{sz:Nat}{cells:α→List Value}{hs:List (Sl α)}{W:World}(hsz:∀ x,(cells x).length=sz)(h:(Be base e sz cells hs).holds W){s:Sl α}(hs':s∈hs)(hl:s.xs.length≤140737488351232):KU cells sz (New base) W s:=MI hsz (h.1 s hs') hl
theorem lay_ok{c:Aj}{n:Nat}{W:World}{L:IA}(hf:Fine c)(hL:Yj c L)(ho:Xw n W L):IA.ok (New n) W L:=by
 obtain⟨w0,hs⟩:=ho
 have h0:W.ownsRow n 95 5 L.Aa.val L.Aa.xs.length (L.Aa.xs.flatMap Aw.cells):=hs.at (i:=0) rfl
 have h1:W.ownsRow n 104 5 L.Ag.val L.Ag.xs.length (L.Ag.xs.flatMap AC.cells):=hs.at (i:=1) rfl
 have h2:(Be n 106 3 BO.cells (L.Ag.xs.map AC.Ed)).holds W:=hs.at (i:=2) rfl
 have h3:(Be n 3 1 (fun x:Int=>[Value.int .i64 x]) (L.Aa.xs.map Aw.Tables)).holds W:=hs.at (i:=3) rfl
 have hkn:=hf.kn;have hpn:=hf.pn;have hcn:=hf.cn
 refine⟨QC (by rw[hL.bar];omega) (by rw[hL.bar];omega),⟨MI (fun _=>rfl) h0 (by rw[hL.pl];omega), ?_⟩,⟨MI (fun _=>rfl) h1 (by rw[hL.cl];omega), ?_⟩, ?_⟩
 ·intro i hi
  have hi':i<c.Aa.xs.length:=by rw[←hL.pl];exact hi
  obtain⟨a,cp,e⟩:=hL.ps i hi'
  have ht:=SA hf i (by omega)
  have hn:=UN (gd c.Aa.xs i)
  have hm:(gd L.Aa.xs i).Tables∈L.Aa.xs.map Aw.Tables:=List.mem_map_of_mem (by rw[F9 hi];exact List.getElem_mem hi)
  have hsl:=Sv (by intro _;rfl) h3 hm (by rw[e];simp only[Hq,WS];omega)
  rw[e]at hsl ⊢
  refine⟨QC (by simp only[Hq,Dp];omega) (by simp only[Hq,Dp];omega),QC (by simp only[Hq,Dp];omega) (by simp only[Hq,Dp];omega),QC (by simp only[Hq,Dp];omega) (by simp only[Hq,Dp];omega),QC (by simp only[Hq];omega) (by simp only[Hq];omega),hsl, ?_⟩
  intro q hq
  have hq':q<Jq (gd c.Aa.xs i):=by simpa only[Hq,WS]using hq
  show Hy .i64 (gd _ _)
  have:gd (Hq c i ⟨a,cp,Gs c i (Jq (gd c.Aa.xs i))⟩).Tables.xs q=Et c i+1+(q:Int):=ZbK hq'
  rw[this]
  exact QC (by omega) (by omega)
 ·intro k hk
  have hk':k<c.Ag.xs.length:=by rw[←hL.cl];exact hk
  obtain⟨a,cp,e⟩:=hL.cs k hk'
  have hb:=UT hf k (by omega)
  have hd:=hf.XP hk'
  have hp0:Dp c c.Aa.xs.length=c.Kernel*16+2+24*(c.Aa.xs.length:Int):=rfl
  have hpp:∀ i,i<c.Aa.xs.length→(gd c.Aa.xs i).Am.xs.length≤8:=fun i hi=>OW (hf.parts i hi)
  have hm:(gd L.Ag.xs k).Ed∈L.Ag.xs.map AC.Ed:=List.mem_map_of_mem (by rw[F9 hk];exact List.getElem_mem hk)
  have hsl:=Sv (by intro _;rfl) h2 hm (by rw[e];simp only[Ku,Vs];omega)
  have h1p:0<(CQ c (k:Int) true).length:=by omega
  have hsrc:=Yh (k:=(k:Int)) (b:=true) hpp hpn (gd (CQ c (k:Int) true) 0) (by rw[F9 h1p];exact List.getElem_mem _)
  rw[e]at hsl ⊢
  refine⟨QC (by simp only[Ku];omega) (by simp only[Ku];omega),QC (by simp only[Ku];omega) (by simp only[Ku];omega),QC (by simp only[Ku];omega) (by simp only[Ku];omega),QC (by simp only[Ku];omega) (by simp only[Ku];omega),hsl, ?_⟩
  intro q hq
  have hq':q<Kw c k:=by simpa only[Ku,Vs]using hq
  have e2:gd (Ku c k ⟨a,cp,FD c k (Kw c k)⟩).Ed.xs q=QA c k q:=ZbK hq'
  have hdst:=Yh (k:=(k:Int)) (b:=false) hpp hpn (gd (CQ c (k:Int) false) q) (by rw[F9 hq'];exact List.getElem_mem _)
  have hdb:=Zcg hf hk' (show q≤4 by omega)
  rw[e2]
  exact⟨QC (by simp only[QA];omega) (by simp only[QA];omega),QC (by simp only[QA];omega) (by simp only[QA];omega),QC (by simp only[QA];omega) (by simp only[QA];omega)⟩
 have:=SA hf _ (Nat.le_refl _)
 exact QC (by rw[hL.fin];omega) (by rw[hL.fin];omega)
theorem of_no(w:World)(c:Aj)(hc:Aj.ok Any w c)(hok:EK c=false):Calls Tryd.prog 31 #[.agg (Aj.arr c)] w fun e w'=>e = .returned (.tuple #[.agg #[.int .i64 0,.slice none 0 0,.slice none 0 0,.int .i64 0],.int .i64 150])∧CP (fun _=>False) w w':=by
 obtain⟨z,hz⟩:∃ z,z=w.heap.size:=⟨_,rfl⟩
 refine CE (args:=[.agg (Aj.arr c)]) 148 ⟨w,z,[(Ak w)]⟩ Tryd.func31 rfl (by kernel_rfl) (by kernel_rfl) (Ep hz) ?_
 refine DC [0] [(0,.agg (Aj.arr c))] ?_
 refine q_c 7 1 [] [[o0,o0,o0],[(an 7 1)]] [Qb z,Qb z,Qb z,Qb z,Qb z,Qb z,Qb z] [(1,pt z),(2,pt (z+1)),(16,.agg (Aj.arr c))] ⟨w,z+2,[(Ak w),(bk z (Aj.arr c) 26),(bk (z+1) #[i6 0,.slice none 0 0,.slice none 0 0,i6 0] 79)]⟩ rfl ⟨rfl,rfl,rfl,rfl,rfl,rfl,rfl,Ae⟩ ?_
 refine Bf 56 #[.agg (Aj.arr c)] (some 17) (.bool false) (fun w1 hw1=>can_no w1 c (hc.ext (hw1.ext rfl) (fun _ h=>h)) hok) (fun n2 (hn3:z+2≤n2) => ?_)
 refine BP 8 0 [1] [[o0],[o0,(an 4 2),o0]] [Qb (z+1),Qb (z+1),Qb (z+1),Qb (z+1)] [(2,pt (z+1)),(3,i6 150)] rfl ⟨rfl,rfl,rfl,rfl,Ae⟩ ?_
 refine AA [.at 2,.at 2,.at 2,.at 2] [Qb (z+1),Qb (z+1),Qb (z+1),Qb (z+1)] (.tuple #[.agg #[i6 0,.slice none 0 0,.slice none 0 0,i6 0],i6 150]) ⟨rfl,rfl,rfl,rfl,Ae⟩ ?_
 intro w4 hw4
 exact⟨rfl,AO hw4⟩
section
variable (n2:Nat)(c:Aj)(aP:Option Addr)(i cP:Nat)(ax100:Option Addr)(csG:List AC)(k:Nat)(y48:GH)(aD:Option Addr)(cD j cp101:Nat)(ax20:Option Addr)(cp21 b50:Nat)(ax96:Option Addr)(y89:GH)(cp97 n80:Nat)(w55 w36:World)(b119:Nat)(psG:List Aw)(cP2:Nat)(aC:Option Addr)(cC n9:Nat)(aP2:Option Addr)(w91:World)(z:Nat)(y34:AL)(n25 p:Nat)(t n109:Nat)(y118:Ap)(aT:Option Addr)(cT:Nat)(ax134:Option Addr)(cp135 b111:Nat)(o112 b82:Nat)(o83 cp40:Nat)(b27 o28:Nat)(ax39:Option Addr)(w:World)
abbrev XL:=bk (n2+1) #[i6 (c.Kernel*16),.slice aP ((Jc c i).length) cP,.slice ax100 ((csG++[(⟨Dl c k,(Dl c k)+2,y48.partition,y48.port,(⟨aD,cD,FD c k j⟩:Sl BO)⟩:AC)]).length) cp101,i6 0] 79
abbrev XB:Ch:= .blk (n2+1) (.cells #[i6 (c.Kernel*16),.slice ax20 ((Jc c i++[(⟨Dp c i,(Dp c i)+2,((Dp c i)+2)+17,0,(⟨none,0,[]⟩:Sl Int)⟩:Aw)]).length) cp21,.slice none 0 0,i6 0] 79 (0,0)) true
abbrev UY:=bk b50 #[i6 (Dl c k),i6 ((Dl c k)+2),i6 y48.partition,i6 y48.port,.slice ax96 ((FD c k j++[(⟨y89.partition,y89.port,IR c k j⟩:BO)]).length) cp97] 104
abbrev JA:=bk b50 #[i6 (Dl c k),i6 ((Dl c k)+2),i6 y48.partition,i6 y48.port,.slice aD ((FD c k j).length) cD] 104
abbrev Xn:=bk n80 #[i6 (Dl c k),i6 ((Dl c k)+2),i6 y48.partition,i6 y48.port,.slice aD ((FD c k j).length) cD] 104
abbrev qzm6_5:Ch:= .blk w55.heap.size (.cells #[i6 (Dl c k),i6 ((Dl c k)+2),i6 y48.partition,i6 y48.port,.slice none 0 0] 104 (0,0)) true
abbrev qzm6_6:Ch:= .blk w36.heap.size (.cells #[i6 (Dl c k),i6 ((Dl c k)+2),i6 y48.partition,i6 y48.port,.slice none 0 0] 104 (0,0)) true
abbrev LH:=bk (n2+1) #[i6 (c.Kernel*16),.slice (some ⟨b119,0,none⟩) psG.length cP2,.slice aC csG.length cC,i6 0] 79
abbrev Xd:=bk n9 #[i6 (Dp c i),i6 ((Dp c i)+2),i6 (((Dp c i)+2)+17),i6 0,.slice none 0 0] 95
abbrev Ff:=bk (n2+1) #[i6 (c.Kernel*16),.slice aP ((Jc c i).length) cP,.slice aC csG.length cC,i6 0] 79
abbrev Ib:=bk (n2+1) #[i6 (c.Kernel*16),.slice aP ((Jc c i).length) cP,.slice none 0 0,i6 0] 79
abbrev Qm:=bk (n2+1) #[i6 (c.Kernel*16),.slice aP2 psG.length cP2,.slice aC csG.length cC,i6 0] 79
abbrev Y1:Ch:= .blk w55.heap.size (.cells #[i6 0,i6 0,i6 0,i6 0,.slice none 0 0] 104 (0,0)) true
abbrev VX:Ch:= .blk w36.heap.size (.cells #[i6 0,i6 0,i6 0,i6 0,.slice none 0 0] 104 (0,0)) true
abbrev Tc:Ch:= .blk w91.heap.size (.cells #[i6 y89.partition,i6 y89.port,i6 (IR c k j)] 106 (0,0)) true
abbrev CW:=bk (z+1) #[i6 0,.slice none 0 0,.slice none 0 0,i6 0] 79
abbrev Ja:=bk n2 #[i6 (((Dl c k)+2)+(BV y34))] 3
abbrev SQ:=bk n25 #[i6 ((Et c p+1+(t:Int))+1)] 3
abbrev Td:=bk n2 #[i6 ((((Dp c i)+2)+17)+5)] 3
abbrev Qr:=bk n2 #[i6 ((IR c k j)+(portOf y34))] 3
abbrev QZ:=bk n25 #[i6 (Et c p+1+(t:Int))] 3
abbrev VZ:=bk n2 #[i6 ((Dl c k)+2)] 3
abbrev Jm:=bk n2 #[i6 (IR c k j)] 3
abbrev KC:=bk n109 (Ap.arr y118) 41
abbrev OB:=bk n25 #[i6 (Et c p)] 3
abbrev FK:=bk n2 #[i6 (Dl c k)] 3
abbrev EO:=bk n25 (AL.arr y34) 55
abbrev O8:=bk n80 (GH.arr y89) 101
abbrev CV:=bk z (Aj.arr c) 26
abbrev V4:=BJ z 95 5 Aw.cells (.slice (some ⟨b119,0,none⟩) psG.length cP2) ((psG.set p (⟨Dp c p,Dp c p+2,Dp c p+2+17,Et c p,(⟨aT,cT,Gs c p t⟩:Sl Int)⟩:Aw)).set p (⟨Dp c p,Dp c p+2,Dp c p+2+17,Et c p,(⟨ax134,cp135,((Gs c p t)++[Et c p+1+(t:Int)])⟩:Sl Int)⟩:Aw))
abbrev Vy:=BJ z 104 5 AC.cells (.slice ax100 ((csG++[(⟨Dl c k,(Dl c k)+2,y48.partition,y48.port,(⟨aD,cD,FD c k j⟩:Sl BO)⟩:AC)]).length) cp101) (csG++[(⟨Dl c k,(Dl c k)+2,y48.partition,y48.port,(⟨aD,cD,FD c k j⟩:Sl BO)⟩:AC)])
abbrev Wx:=BJ z 95 5 Aw.cells (.slice ax20 ((Jc c i++[(⟨Dp c i,(Dp c i)+2,((Dp c i)+2)+17,0,(⟨none,0,[]⟩:Sl Int)⟩:Aw)]).length) cp21) (Jc c i++[(⟨Dp c i,(Dp c i)+2,((Dp c i)+2)+17,0,(⟨none,0,[]⟩:Sl Int)⟩:Aw)])
abbrev SV:=BJ z 106 3 BO.cells (.slice ax96 ((FD c k j++[(⟨y89.partition,y89.port,IR c k j⟩:BO)]).length) cp97) (FD c k j++[(⟨y89.partition,y89.port,IR c k j⟩:BO)])
abbrev NP:=BJ z 95 5 Aw.cells (.slice (some ⟨b119,0,none⟩) psG.length cP2) (psG.set p (⟨Dp c p,Dp c p+2,Dp c p+2+17,Et c p,(⟨aT,cT,Gs c p t⟩:Sl Int)⟩:Aw))
abbrev RD:=BJ z 3 1 (fun x:Int=>[i6 x]) (.slice aT ((Gs c p t).length) cT) (Gs c p t)
abbrev J6:=Be z 3 1 (fun x:Int=>[i6 x]) ((psG.take p).map Aw.Tables)
abbrev Ee:=BJ z 95 5 Aw.cells (.slice aP ((Jc c i).length) cP) (Jc c i)
abbrev Jo:=BJ z 106 3 BO.cells (.slice aD ((FD c k j).length) cD) (FD c k j)
abbrev P6:=BJ z 95 5 Aw.cells (.slice aP2 psG.length cP2) psG
abbrev Eb:=BJ z 104 5 AC.cells (.slice aC csG.length cC) csG
abbrev DW:=Be z 106 3 BO.cells (csG.map AC.Ed)
abbrev Y0:DJ:=(42,.slice ax20 ((Jc c i++[(⟨Dp c i,(Dp c i)+2,((Dp c i)+2)+17,0,(⟨none,0,[]⟩:Sl Int)⟩:Aw)]).length) cp21)
abbrev VM:DJ:=(73,.agg #[i6 (Dl c k),i6 ((Dl c k)+2),i6 y48.partition,i6 y48.port,.slice none 0 0])
abbrev H8:DJ:=(109,.slice (some ⟨b111,o112,none⟩) c.Aa.xs.length c.Aa.cap)
abbrev KX:DJ:=(74,.slice (some ⟨b82,o83,none⟩) ((CQ c (k:Int) false).length) cp40)
abbrev DL:DJ:=(46,.slice (some ⟨b27,o28,none⟩) c.Ag.xs.length c.Ag.cap)
abbrev NC:DJ:=(109,.slice c.Aa.a c.Aa.xs.length c.Aa.cap)
abbrev GY:=(75,i6 (((CQ c (k:Int) false).length:Nat):Int))
abbrev Jn:DJ:=(46,.slice c.Ag.a c.Ag.xs.length c.Ag.cap)
abbrev Gy:DJ:=(13,.func (.func 75) #[] #[pt n25])
abbrev P9:DJ:=(61,.func (.func 75) #[] #[pt n2])
abbrev CS:DJ:=(4,.func (.func 75) #[] #[pt n2])
abbrev JH:DJ:=(74,.slice ax39 ((CQ c (k:Int) false).length) cp40)
abbrev EW:DJ:=(9,.slice ax39 ((CQ c (k:Int) false).length) cp40)
abbrev Gx:=(110,Ac c.Aa.xs.length)
abbrev Gv:=(29,Ac c.Aa.xs.length)
abbrev D5:=(47,Ac c.Ag.xs.length)
abbrev QV:=(10,pt w55.heap.size)
abbrev MZ:=(10,pt w36.heap.size)
abbrev JV:=(124,i6 ((Jq y118:Nat):Int))
abbrev SL:DJ:=(33,.slice aP ((Jc c i).length) cP)
abbrev BL:=(5,pt (n2+1))
abbrev BG:=(2,pt (z+1))
abbrev GR:=(10,pt b50)
abbrev Ec:=(7,pt n25)
abbrev QU:=[(Ak w),(CV c z),(CW z),(FK n2 c k),(LH n2 c csG b119 psG cP2 aC cC),(NP c b119 psG cP2 z p t aT cT),(DW csG z),(Eb csG aC cC z),(QZ c n25 p t),(J6 psG z p),(KC n109 y118),(RD c z p t aT cT)]
abbrev Uw:=[(Ak w),(CV c z),(CW z),(Ja n2 c k y34),(Ff n2 c aP i cP csG aC cC),(Ee c aP i cP z),(DW csG z),(Eb csG aC cC z),(EO y34 n25),(mid (n25+1) w36),(qzm6_5 c k y48 w55)]
abbrev Uo:=[(Ak w),(CV c z),(CW z),(Ja n2 c k y34),(Ff n2 c aP i cP csG aC cC),(Ee c aP i cP z),(DW csG z),(Eb csG aC cC z),(EO y34 n25),(mid (n25+1) w36),(qzm6_6 c k y48 w36)]
abbrev YA:=[(Ak w),(CV c z),(CW z),(VZ n2 c k),(Ff n2 c aP i cP csG aC cC),(Ee c aP i cP z),(DW csG z),(Eb csG aC cC z),(EO y34 n25),(mid (n25+1) w36),(VX w36)]
abbrev PG:=[(Ak w),(CV c z),(CW z),(FK n2 c k),(Qm n2 c csG psG cP2 aC cC aP2),(P6 psG cP2 aP2 z),(DW csG z),(Eb csG aC cC z),(OB c n25 p),(J6 psG z p)]
abbrev Jy:=[(Ak w),(CV c z),(CW z),(FK n2 c k),(Ff n2 c aP i cP csG aC cC),(Ee c aP i cP z),(DW csG z),(Eb csG aC cC z)]
abbrev Jl:=[(Ak w),(CV c z),(CW z),(bk n2 #[i6 (Dp c i)] 3),(Ib n2 c aP i cP),(Ee c aP i cP z)]
end
theorem of_yes(w:World)(c:Aj)(hc:Aj.ok Any w c)(hok:EK c=true):Calls Tryd.prog 31 #[.agg (Aj.arr c)] w fun e w'=>∃ L:IA,e = .returned (.tuple #[.agg (IA.arr L),.int .i64 0])∧Yj c L∧IA.ok (New w.heap.size) w' L∧Xw w.heap.size w' L∧CP (fun _=>False) w w':=by
 obtain⟨z,hz⟩:∃ z,z=w.heap.size:=⟨_,rfl⟩
 refine CE (args:=[.agg (Aj.arr c)]) 148 ⟨w,z,[(Ak w)]⟩ Tryd.func31 rfl (by kernel_rfl) (by kernel_rfl) (Ep hz) ?_
 have hfine:=Wp hok;have hkn:=hfine.kn;have hpn:=hfine.pn;have hcn:=hfine.cn
 refine DC [0] [(0,.agg (Aj.arr c))] ?_
 refine q_c 7 1 [] [[o0,o0,o0],[(an 7 1)]] [Qb z,Qb z,Qb z,Qb z,Qb z,Qb z,Qb z] [(1,pt z),(BG z),(16,.agg (Aj.arr c))] ⟨w,z+2,[(Ak w),(CV c z),(CW z)]⟩ rfl ⟨rfl,rfl,rfl,rfl,rfl,rfl,rfl,Ae⟩ ?_
 refine Bf 56 #[.agg (Aj.arr c)] (some 17) (.bool true) (fun w1 hw1=>can_yes w1 c (hc.ext (hw1.ext rfl) (fun _ h=>h)) hok) (fun n2 (hn3:z+2≤n2) => ?_)
 refine BP 7 3 [0] [[o0],[o0,(a1 1),(ov (i6 (c.Kernel*16)))]] [Qb z,Wr ((c.Kernel:Int)*16) (c.Kernel*16)] [(1,pt z),(BG z),(22,i6 (c.Kernel*16))] rfl ⟨rfl,BQ,Ae⟩ ?_
 refine l_call [] [] 57 #[i6 (c.Kernel*16)] (some 23) Ae ?_
 intro w4 hw4
 refine CE (args:=[i6 (c.Kernel*16)]) 4 ⟨w,n2,[(Ak w),(CV c z),(CW z)]⟩ Tryd.func57 rfl (by kernel_rfl) (by kernel_rfl) hw4 ?_
 refine q_c 9 0 [] [[o0,o0],[o0,o0]] [] [(2,.func (.func 75) #[] #[pt n2])] ⟨w,n2+1,[(Ak w),(CV c z),(CW z),(bk n2 #[i6 (c.Kernel*16)] 3)]⟩ rfl Ae ?_
 refine AA [] [] (.func (.func 75) #[] #[pt n2]) Ae ?_
 intro w5 hw5
 refine⟨_,_,rfl,hw5, ?_⟩
 refine BP 4 1 [] [[o0],[o0]] [] [(1,pt z),(BG z),(CS n2),(24,.func (.func 75) #[] #[pt n2])] rfl Ae ?_
 refine l_call [] [] 75 #[i6 2,pt n2] (some 25) Ae ?_
 intro w6 hw6
 refine CE (args:=[i6 2,pt n2]) 10 ⟨w,n2+1,[(Ak w),(CV c z),(CW z),(bk n2 #[i6 (c.Kernel*16)] 3)]⟩ Tryd.func75 rfl (by kernel_rfl) (by kernel_rfl) hw6 ?_
 refine q_c 17 0 [] [[o0],[(a1 3),o0],[(a1 3),o0,(ov (i6 ((c.Kernel*16)+2))),(a1 3)],[o0,o0]] [Qb n2,Qb n2,Wr ((c.Kernel*16:Int)+2) ((c.Kernel*16)+2),Qb n2] [(3,i6 (c.Kernel*16))] ⟨w,n2+1,[(Ak w),(CV c z),(CW z),(bk n2 #[i6 ((c.Kernel*16)+2)] 3)]⟩ rfl ⟨rfl,rfl,BQ,rfl,Ae⟩ ?_
 refine AA [] [] (i6 (c.Kernel*16)) Ae ?_
 intro w7 hw7
 refine⟨_,_,rfl,hw7, ?_⟩
 refine EY 8 0 [] [[o0,o0,(an 4 4)],[o0,(a1 1),o0,o0]] [Qb (n2+1),Qb (n2+1),Qb (n2+1),Qb (n2+1),Qb z] [(1,pt z),(BG z),(CS n2),(BL n2),(Gv c),(30,i6 0)] ⟨w,n2+2,[(Ak w),(CV c z),(CW z),(bk n2 #[i6 ((c.Kernel*16)+2)] 3),(bk (n2+1) #[i6 (c.Kernel*16),.slice none 0 0,.slice none 0 0,i6 0] 79)]⟩ rfl ⟨rfl,rfl,rfl,rfl,rfl,Ae⟩ ?_
 refine OZ z 95 5 Aw.cells ?_
 refine Di (fun m a w'=>∃ (n9:Nat) (i:Nat) (aP:Option Addr) (cP:Nat),m=c.Aa.xs.length - i∧n2+2≤n9∧(i≤c.Aa.xs.length)∧St 148 [(1,pt z),(BG z),(CS n2),(BL n2),(Gv c),(30,Ac i)] [] ⟨w,n9,(Jl n2 c aP i cP z w)⟩ a w') (c.Aa.xs.length - 0) ?_ ?_
 ·intro a w' hs;exact⟨(n2+2),0,none,0,rfl,Nat.le_refl _,Nat.zero_le _,by(try dsimp only[Ib,CW,CV,Ee,CS,Gv,BL,BG,Jl]at hs ⊢);rw[show Dp c 0=(c.Kernel*16)+2 from by unfold Dp;omega];exact hs⟩
 rintro m a w' ⟨n9,i,aP,cP,rfl,hn8,hki,hs⟩
 refine(?_:G Tryd.prog 148 [(1,pt z),(BG z),(CS n2),(BL n2),(Gv c),(30,Ac i)] [] ⟨w,n9,(Jl n2 c aP i cP z w)⟩ _ _ _) a w' hs
 clear hs a w'
 have hpA:Dp c i=c.Kernel*16+2+24*(i:Int):=rfl
 have hpl0:(Jc c i).length=i:=X9
 refine Ce ?_
 by_cases h10:(i:Int)<(c.Aa.xs.length:Int)
 ·refine Az 9 0 [1] [[oT]] [BT ((i:Int)<(c.Aa.xs.length:Int))] [(1,pt z),(BG z),(CS n2),(BL n2),(Gv c),(30,Ac i),(31,.bool true)] rfl ⟨bt,Ae⟩ ?_
  refine Eh 12 [0,1,2,4] [(Ak w),(CV c z),(CW z),(Ib n2 c aP i cP)] rfl rfl ?_
  refine Dj [(0,o0),(1,(a1 3)),(2,o0),(4,o0),(6,o0)] [1,2,4,5,29,30,33,34,36,38] [Qb (n2+1)] [true,true,true,false,true,false,true,false,false,false,false,false,false] [(1,pt z),(BG z),(CS n2),(BL n2),(Gv c),(30,Ac i),(SL c aP i cP),(34,.func (.func 75) #[] #[pt n2]),(36,.func (.func 75) #[] #[pt n2]),(38,.func (.func 75) #[] #[pt n2])] ⟨rfl,Ae⟩ ?_
  refine BC 3 ?_
  refine Jj [] [] 75 #[i6 2,pt n2] (some 35) (by as_aux_lemma=>kernel_rfl) rfl rfl Ae ?_
  intro w11 hw11
  refine CE (args:=[i6 2,pt n2]) 10 ⟨w,n9,(Jl n2 c aP i cP z w)⟩ Tryd.func75 rfl (by kernel_rfl) (by kernel_rfl) hw11 ?_
  refine q_c 17 0 [] [[o0],[(a1 3),o0],[(a1 3),o0,(ov (i6 ((Dp c i)+2))),(a1 3)],[o0,o0]] [Qb n2,Qb n2,Wr ((Dp c i:Int)+2) ((Dp c i)+2),Qb n2] [(3,i6 (Dp c i))] ⟨w,n9,[(Ak w),(CV c z),(CW z),(bk n2 #[i6 ((Dp c i)+2)] 3),(Ib n2 c aP i cP),(Ee c aP i cP z)]⟩ rfl ⟨rfl,rfl,BQ,rfl,Ae⟩ ?_
  refine AA [] [] (i6 (Dp c i)) Ae ?_
  intro w12 hw12
  have hs13:=hw12
  refine⟨_,_,rfl,hs13,.inr (fun c hc=>hs13.all c (by first | exact hc | exact Fe (is:=[0,1,2,4]) rfl c hc)), ?_⟩
  refine DU [1,2,4,5,29,30,33,36,38,35] [(1,pt z),(BG z),(CS n2),(BL n2),(Gv c),(30,Ac i),(SL c aP i cP),(36,.func (.func 75) #[] #[pt n2]),(38,.func (.func 75) #[] #[pt n2]),(35,i6 (Dp c i))] ?_
  refine BC 5 ?_
  refine Jj [] [] 75 #[i6 17,pt n2] (some 37) (by as_aux_lemma=>kernel_rfl) rfl rfl Ae ?_
  intro w14 hw14
  refine CE (args:=[i6 17,pt n2]) 10 ⟨w,n9,[(Ak w),(CV c z),(CW z),(bk n2 #[i6 ((Dp c i)+2)] 3),(Ib n2 c aP i cP),(Ee c aP i cP z)]⟩ Tryd.func75 rfl (by kernel_rfl) (by kernel_rfl) hw14 ?_
  refine q_c 17 0 [] [[o0],[(a1 3),o0],[(a1 3),o0,(ov (i6 (((Dp c i)+2)+17))),(a1 3)],[o0,o0]] [Qb n2,Qb n2,Wr (((Dp c i)+2:Int)+17) (((Dp c i)+2)+17),Qb n2] [(3,i6 ((Dp c i)+2))] ⟨w,n9,[(Ak w),(CV c z),(CW z),(bk n2 #[i6 (((Dp c i)+2)+17)] 3),(Ib n2 c aP i cP),(Ee c aP i cP z)]⟩ rfl ⟨rfl,rfl,BQ,rfl,Ae⟩ ?_
  refine AA [] [] (i6 ((Dp c i)+2)) Ae ?_
  intro w15 hw15
  have hs16:=hw15
  refine⟨_,_,rfl,hs16,.inr (fun c hc=>hs16.all c (by first | exact hc | exact Fe (is:=[0,1,2,4]) rfl c hc)), ?_⟩
  refine DU [1,2,4,5,29,30,33,38,35,37] [(1,pt z),(BG z),(CS n2),(BL n2),(Gv c),(30,Ac i),(SL c aP i cP),(38,.func (.func 75) #[] #[pt n2]),(35,i6 (Dp c i)),(37,i6 ((Dp c i)+2))] ?_
  refine BC 7 ?_
  refine Jj [] [] 75 #[i6 5,pt n2] (some 39) (by as_aux_lemma=>kernel_rfl) rfl rfl Ae ?_
  intro w17 hw17
  refine CE (args:=[i6 5,pt n2]) 10 ⟨w,n9,[(Ak w),(CV c z),(CW z),(bk n2 #[i6 (((Dp c i)+2)+17)] 3),(Ib n2 c aP i cP),(Ee c aP i cP z)]⟩ Tryd.func75 rfl (by kernel_rfl) (by kernel_rfl) hw17 ?_
  refine q_c 17 0 [] [[o0],[(a1 3),o0],[(a1 3),o0,(ov (i6 ((((Dp c i)+2)+17)+5))),(a1 3)],[o0,o0]] [Qb n2,Qb n2,Wr ((((Dp c i)+2)+17:Int)+5) ((((Dp c i)+2)+17)+5),Qb n2] [(3,i6 (((Dp c i)+2)+17))] ⟨w,n9,[(Ak w),(CV c z),(CW z),(Td n2 c i),(Ib n2 c aP i cP),(Ee c aP i cP z)]⟩ rfl ⟨rfl,rfl,BQ,rfl,Ae⟩ ?_
  refine AA [] [] (i6 (((Dp c i)+2)+17)) Ae ?_
  intro w18 hw18
  have hs19:=hw18
  refine⟨_,_,rfl,hs19,.inr (fun c hc=>hs19.all c (by first | exact hc | exact Fe (is:=[0,1,2,4]) rfl c hc)), ?_⟩
  refine DU [1,2,4,5,29,30,33,35,37,39] [(1,pt z),(BG z),(CS n2),(BL n2),(Gv c),(30,Ac i),(SL c aP i cP),(35,i6 (Dp c i)),(37,i6 ((Dp c i)+2)),(39,i6 (((Dp c i)+2)+17))] ?_
  refine Dj [(8,o0)] [1,2,4,5,29,30,33,40] [] (DF 9 4) [(1,pt z),(BG z),(CS n2),(BL n2),(Gv c),(30,Ac i),(SL c aP i cP),(40,.agg #[i6 (Dp c i),i6 ((Dp c i)+2),i6 (((Dp c i)+2)+17),i6 0,.slice none 0 0])] Ae ?_
  refine BC 9 ?_
  refine BH o0 [1,2,4,5,29,30,33,41] [] [(1,pt z),(BG z),(CS n2),(BL n2),(Gv c),(30,Ac i),(SL c aP i cP),(41,.slice (some ⟨n9,0,none⟩) 1 1)] ⟨w,n9+1,[(Ak w),(CV c z),(CW z),(Td n2 c i),(Ib n2 c aP i cP),(Ee c aP i cP z),(Xd c i n9)]⟩ [0,1,2,4] Ae (.inr rfl) ?_
  refine BC 10 ?_
  refine W9 z 5 6 (Jc c i) [(⟨Dp c i,(Dp c i)+2,((Dp c i)+2)+17,0,(⟨none,0,[]⟩:Sl Int)⟩:Aw)] Aw.cells 95 5 56 (.slice aP ((Jc c i).length) cP) n9 1 1 #[i6 (Dp c i),i6 ((Dp c i)+2),i6 (((Dp c i)+2)+17),i6 0,.slice none 0 0] 95 (0,0) true (some 42) [0,1,2,4] (by simp only[List.length_cons,List.length_nil];omega) (show z≤n9+1 by omega) (.inr ⟨rfl,rfl⟩) (fun ax20 cp21 n22 (hn23:n9+1≤n22) => ?_)
  refine DU [1,2,4,5,29,30,42] [(1,pt z),(BG z),(CS n2),(BL n2),(Gv c),(30,Ac i),(Y0 c i ax20 cp21)] ?_
  refine Dj [(11,o0)] [1,2,4,5,29,30,42,43] [] (DF 12 1) [(1,pt z),(BG z),(CS n2),(BL n2),(Gv c),(30,Ac i),(Y0 c i ax20 cp21),(43,.pointer (some ⟨n2+1,1,none⟩))] Ae ?_
  refine BC 12 ?_
  refine BH (a1 4) [1,2,4,5,29,30] [Qb (n2+1)] [(1,pt z),(BG z),(CS n2),(BL n2),(Gv c),(30,Ac i)] ⟨w,n22,[(Ak w),(CV c z),(CW z),(Td n2 c i),(XB n2 c i ax20 cp21),(Wx c i ax20 cp21 z),(Xd c i n9)]⟩ [] ⟨rfl,Ae⟩ (.inl rfl) ?_
  refine Es 13 [0,1,2,3,4,5,6] [(Ak w),(CV c z),(CW z),(Td n2 c i),(XB n2 c i ax20 cp21),(Wx c i ax20 cp21 z),(Xd c i n9)] rfl rfl ?_
  refine CU ?_
  refine Jw 4 0 [] [[(ov (i6 ((i+1:Nat):Int))),o0]] [Wr ((i:Int)+1) (((i+1:Nat):Int))] [(1,pt z),(BG z),(CS n2),(BL n2),(Gv c),(30,i6 ((i+1:Nat):Int))] rfl ⟨BQ,Ae⟩ ?_
  refine Cb [0,1,2,3,4,5] [(Ak w),(CV c z),(CW z),(Td n2 c i),(XB n2 c i ax20 cp21),(Wx c i ax20 cp21 z)] rfl rfl ?_
  refine BK [1,2,4,5,29,30] [(1,pt z),(BG z),(CS n2),(BL n2),(Gv c),(30,i6 ((i+1:Nat):Int))] ?_
  refine BD (fun a w' hs=>⟨c.Aa.xs.length - (i+1),by omega,n22,(i+1),ax20,cp21,rfl,by omega,by omega,by(try dsimp only[XB,Xd,Ib,CW,Td,CV,Wx,Ee,Y0,CS,Gv,SL,BL,BG,Jl]at hs ⊢);rw[show Dp c (i+1)=(((Dp c i)+2)+17)+5 from by unfold Dp;omega,Zb1];exact hs⟩)
 refine Az 16 0 [0] [[oF],[o0,(a1 1),o0,o0]] [BF ((i:Int)<(c.Aa.xs.length:Int)),Qb z] [(1,pt z),(BG z),(CS n2),(BL n2),(Jn c),(D5 c),(48,i6 0)] rfl ⟨bf,rfl,Ae⟩ ?_
 refine RH z 106 3 BO.cells ?_
 refine OZ z 104 5 AC.cells ?_
 refine Di (fun m a w'=>∃ (n25:Nat) (k:Nat) (csG:List AC) (aC:Option Addr) (cC:Nat),m=c.Ag.xs.length - k∧n9≤n25∧(k≤c.Ag.xs.length)∧(csG.length=k)∧(∀ q,q<k→∃ a cp,gd csG q=Ku c q ⟨a,cp,FD c q (Kw c q)⟩)∧St 148 [(1,pt z),(BG z),(CS n2),(BL n2),(Jn c),(D5 c),(48,Ac k)] [] ⟨w,n25,(Jy n2 c aP i cP csG k aC cC z w)⟩ a w') (c.Ag.xs.length - 0) ?_ ?_
 ·intro a w' hs;exact⟨n9,0,([]),none,0,rfl,Nat.le_refl _,Nat.zero_le _,rfl,fun q hq=>absurd hq (Nat.not_lt_zero q),by(try dsimp only[XB,Xd,Ff,Ib,CW,Td,FK,CV,Wx,Ee,Eb,DW,Y0,Jn,CS,Gv,D5,BL,BG,Jy,Jl]at hs ⊢);rw[show Dl c 0=Dp c i from by rw[show i=c.Aa.xs.length by omega];rfl];exact hs⟩
 rintro m a w' ⟨n25,k,csG,aC,cC,rfl,hn24,hkk,hcl,hcs,hs⟩
 refine(?_:G Tryd.prog 148 [(1,pt z),(BG z),(CS n2),(BL n2),(Jn c),(D5 c),(48,Ac k)] [] ⟨w,n25,(Jy n2 c aP i cP csG k aC cC z w)⟩ _ _ _) a w' hs
 clear hs a w'
 have hcb:=UT hfine k (by omega)
 have hp0:Dp c c.Aa.xs.length=c.Kernel*16+2+24*(c.Aa.xs.length:Int):=rfl
 refine Ce ?_
 by_cases h26:(k:Int)<(c.Ag.xs.length:Int)
 ·refine Az 10 0 [1] [[oT]] [BT ((k:Int)<(c.Ag.xs.length:Int))] [(1,pt z),(BG z),(CS n2),(BL n2),(Jn c),(D5 c),(48,Ac k),(49,.bool true)] rfl ⟨bt,Ae⟩ ?_
  obtain⟨b27,o28,ha29,hF31,hc30⟩:=(hc.Ag).1.all (show 0<c.Ag.xs.length by omega)
  replace ha29:c.Ag.a=some ⟨b27,o28,none⟩:=ha29
  refine MQ [(1,pt z),(BG z),(CS n2),(BL n2),(DL c b27 o28),(D5 c),(48,Ac k),(49,.bool true)] (by(try dsimp only[Ff,Ib,CW,FK,CV,Ee,Eb,DW,DL,Jn,CS,Gv,D5,BL,BG,Jy,Jl]);simp only[ha29]) ?_
  have hc32:=hc30 k (show k<c.Ag.xs.length by omega)
  have he33:=(hc.Ag).2 k (show k<c.Ag.xs.length by omega)
  obtain⟨y34,hy34⟩:∃ y_,y_=gd c.Ag.xs k:=⟨_,rfl⟩
  rw[←hy34]at he33 hc32
  have hEd:=hfine.XP (k:=k) (by omega);have hsb:=Ot y34;have hpb:=U0 y34;have hlb:=ZaQ hfine (show k<c.Ag.xs.length by omega);have hEn:Kw c k=(CQ c (k:Int) false).length:=rfl
  refine q_c 5 2 [] [[o0,(oi k),(ol 0 (AL.arr y34)),o0,o0,(an 3 8)],[(an 7 1),o0]] [Ci k,k<c.Ag.xs.length,BN,Fa w b27 (o28+k*3) (AL.arr y34),Qb n25,Qb n25,Qb n25,Qb z,Qb z,Qb z,Qb z,Qb z,Qb z,Qb z] [(1,pt z),(BG z),(CS n2),(BL n2),(DL c b27 o28),(D5 c),(48,Ac k),(Ec n25),(54,.agg (Aj.arr c)),(55,Ac k)] ⟨w,n25+1,[(Ak w),(CV c z),(CW z),(FK n2 c k),(Ff n2 c aP i cP csG aC cC),(Ee c aP i cP z),(DW csG z),(Eb csG aC cC z),(EO y34 n25)]⟩ rfl ⟨rfl,(by omega),rfl,Dt hc32,rfl,rfl,rfl,rfl,rfl,rfl,rfl,rfl,rfl,rfl,Ae⟩ ?_
  refine l_call [] [] 58 #[.agg (Aj.arr c),Ac k] (some 56) Ae ?_
  intro w35 hw35
  refine(RJ w35 c (k:Int) (hc.ext (hw35.ext rfl) (fun _ h=>h)) (by omega) (fun i hi=>OW (hfine.parts i hi))).mono ?_
  rintro e w36 ⟨ax37,cp38,ax39,cp40,rfl,hSw36,hDw36,hkw36⟩
  have hnw36:n25+1≤w36.heap.size:=Fg hw35 hkw36
  rw[hw35.size]at hSw36 hDw36
  refine⟨_,_,rfl,hw35.Qi hkw36, ?_⟩
  refine BP 3 0 [] [[o0,o0,o0,o0,o0]] [] [(1,pt z),(BG z),(CS n2),(BL n2),(DL c b27 o28),(D5 c),(48,Ac k),(Ec n25),(8,.slice ax37 ((CQ c (k:Int) true).length) cp38),(EW c k cp40 ax39)] rfl Ae ?_
  obtain⟨b41,o42,ha43,hF45,hc44⟩:=((⟨hSw36,WE hfine⟩:Je GH.cells 2 GH.ok _ _ _)).1.all (show 0<(CQ c (k:Int) true).length by omega)
  replace ha43:ax37=some ⟨b41,o42,none⟩:=ha43
  refine MQ [(1,pt z),(BG z),(CS n2),(BL n2),(DL c b27 o28),(D5 c),(48,Ac k),(Ec n25),(8,.slice (some ⟨b41,o42,none⟩) ((CQ c (k:Int) true).length) cp38),(EW c k cp40 ax39)] (by(try dsimp only[Ff,Ib,CW,FK,EO,CV,Ee,Eb,DW,DL,Jn,CS,EW,Gv,D5,BL,BG,Ec,Jy,Jl]);simp only[ha43]) ?_
  have hc46:=hc44 0 (show 0<(CQ c (k:Int) true).length by omega)
  have he47:=((⟨hSw36,WE hfine⟩:Je GH.cells 2 GH.ok _ _ _)).2 0 (show 0<(CQ c (k:Int) true).length by omega)
  obtain⟨y48,hy48⟩:∃ y_,y_=gd (⟨ax37,cp38,CQ c (k:Int) true⟩:Sl GH).xs 0:=⟨_,rfl⟩
  rw[←hy48]at he47 hc46
  refine Eh 16 [0,1,2,4,5,6,7,8,9] [(Ak w),(CV c z),(CW z),(Ff n2 c aP i cP csG aC cC),(Ee c aP i cP z),(DW csG z),(Eb csG aC cC z),(EO y34 n25),(mid (n25+1) w36)] rfl rfl ?_
  refine Dj [(0,o0),(2,o0),(3,(an 3 7)),(6,o0),(7,(oi 0)),(8,o0),(9,(oa [.via 8 (i6 y48.partition)])),(10,o0),(11,(oi 0)),(12,o0),(13,(oa [.via 8 (i6 y48.port)]))] [1,2,4,5,46,47,48,7,9,59,61,62,68,72] [Qb n25,Qb n25,Qb n25,(0:Int)=((0:Nat):Int),0<(CQ c (k:Int) true).length,BN,∀ w',Ch.holds (mid (n25+1) w36) w'→w'.cell? ⟨b41,o42,none⟩=some (i6 y48.partition),(0:Int)=((0:Nat):Int),0<(CQ c (k:Int) true).length,BN,∀ w',Ch.holds (mid (n25+1) w36) w'→w'.cell? ⟨b41,o42+1,none⟩=some (i6 y48.port)] [true,false,true,true,false,false,true,true,true,true,true,true,true,true,false,false,false] [(1,pt z),(BG z),(CS n2),(BL n2),(DL c b27 o28),(D5 c),(48,Ac k),(Ec n25),(EW c k cp40 ax39),(59,.func (.func 75) #[] #[pt n2]),(P9 n2),(62,.agg (AL.arr y34)),(68,i6 y48.partition),(72,i6 y48.port)] ⟨rfl,rfl,rfl,rfl,(by omega),rfl,Oo hF45 (hc46 0 _ rfl),rfl,(by omega),rfl,Oo hF45 (hc46 1 _ rfl),Ae⟩ ?_
  refine Qx (fun x:{p:Nat×Nat // w36.heap.size≤p.1∧w36.heap.size≤p.2}=>([(1,pt z),(BG z),(CS n2),(BL n2),(DL c b27 o28),(D5 c),(48,Ac k),(Ec n25),(EW c k cp40 ax39),(10,pt x.1.2)],⟨w,x.1.1,[(Ak w),(CV c z),(CW z),(Ja n2 c k y34),(Ff n2 c aP i cP csG aC cC),(Ee c aP i cP z),(DW csG z),(Eb csG aC cC z),(EO y34 n25),(mid (n25+1) w36),(.blk x.1.2 (.cells #[i6 (Dl c k),i6 ((Dl c k)+2),i6 y48.partition,i6 y48.port,.slice none 0 0] 104 (0,0)) true)]⟩)) (fun hK => ?_) ?_
  ·refine JC [1,15] ?_
   refine List.forall_mem_cons.2 ⟨?_,List.forall_mem_cons.2 ⟨?_,fun _ h=>absurd h List.not_mem_nil⟩⟩
   ·refine Jj [] [] 75 #[i6 2,pt n2] (some 60) (by as_aux_lemma=>kernel_rfl) rfl rfl Ae ?_
    intro w51 hw51
    refine CE (args:=[i6 2,pt n2]) 10 ⟨w,w36.heap.size,[(Ak w),(CV c z),(CW z),(FK n2 c k),(Ff n2 c aP i cP csG aC cC),(Ee c aP i cP z),(DW csG z),(Eb csG aC cC z),(EO y34 n25),(mid (n25+1) w36)]⟩ Tryd.func75 rfl (by kernel_rfl) (by kernel_rfl) hw51 ?_
    refine q_c 17 0 [] [[o0],[(a1 3),o0],[(a1 3),o0,(ov (i6 ((Dl c k)+2))),(a1 3)],[o0,o0]] [Qb n2,Qb n2,Wr ((Dl c k:Int)+2) ((Dl c k)+2),Qb n2] [(3,i6 (Dl c k))] ⟨w,w36.heap.size,[(Ak w),(CV c z),(CW z),(VZ n2 c k),(Ff n2 c aP i cP csG aC cC),(Ee c aP i cP z),(DW csG z),(Eb csG aC cC z),(EO y34 n25),(mid (n25+1) w36)]⟩ rfl ⟨rfl,rfl,BQ,rfl,Ae⟩ ?_
    refine AA [] [] (i6 (Dl c k)) Ae ?_
    intro w52 hw52
    have hs53:=hw52
    refine⟨_,_,rfl,hs53,.inr (fun c hc=>hs53.all c (by first | exact hc | exact Fe (is:=[0,1,2,4,5,6,7,8,9]) rfl c hc)), ?_⟩
    refine DU [1,2,4,5,46,47,48,7,9,61,62,68,72,60] [(1,pt z),(BG z),(CS n2),(BL n2),(DL c b27 o28),(D5 c),(48,Ac k),(Ec n25),(EW c k cp40 ax39),(P9 n2),(62,.agg (AL.arr y34)),(68,i6 y48.partition),(72,i6 y48.port),(60,i6 (Dl c k))] ?_
    refine JC [4,15] ?_
    refine List.forall_mem_cons.2 ⟨?_,List.forall_mem_cons.2 ⟨?_,fun _ h=>absurd h List.not_mem_nil⟩⟩
    ·refine Jj [] [] 59 #[.agg (AL.arr y34)] (some 63) (by as_aux_lemma=>kernel_rfl) rfl rfl Ae ?_
     intro w54 hw54
     refine(Q3 w54 y34 (he33.ext (hw54.ext rfl) (fun _ h=>h))).mono ?_
     rintro e w55 ⟨rfl,hkw55⟩
     have hnw55:w36.heap.size≤w55.heap.size:=Fg hw54 hkw55
     have hs56:=hw54.keeps hkw55
     refine⟨_,_,rfl,hs56,.inr (fun c hc=>hs56.all c (by first | exact hc | exact Fe (is:=[0,1,2,4,5,6,7,8,9]) rfl c hc)), ?_⟩
     refine DU [1,2,4,5,46,47,48,7,9,61,68,72,60,63] [(1,pt z),(BG z),(CS n2),(BL n2),(DL c b27 o28),(D5 c),(48,Ac k),(Ec n25),(EW c k cp40 ax39),(P9 n2),(68,i6 y48.partition),(72,i6 y48.port),(60,i6 (Dl c k)),(63,i6 (BV y34))] ?_
     refine JC [5,15] ?_
     refine List.forall_mem_cons.2 ⟨?_,List.forall_mem_cons.2 ⟨?_,fun _ h=>absurd h List.not_mem_nil⟩⟩
     ·refine Jj [] [] 75 #[i6 (BV y34),pt n2] (some 64) (by as_aux_lemma=>kernel_rfl) rfl rfl Ae ?_
      intro w57 hw57
      refine CE (args:=[i6 (BV y34),pt n2]) 10 ⟨w,w55.heap.size,[(Ak w),(CV c z),(CW z),(VZ n2 c k),(Ff n2 c aP i cP csG aC cC),(Ee c aP i cP z),(DW csG z),(Eb csG aC cC z),(EO y34 n25),(mid (n25+1) w36)]⟩ Tryd.func75 rfl (by kernel_rfl) (by kernel_rfl) hw57 ?_
      refine q_c 17 0 [] [[o0],[(a1 3),o0],[(a1 3),o0,(ov (i6 (((Dl c k)+2)+(BV y34)))),(a1 3)],[o0,o0]] [Qb n2,Qb n2,Wr (((Dl c k)+2:Int)+(BV y34)) (((Dl c k)+2)+(BV y34)),Qb n2] [(3,i6 ((Dl c k)+2))] ⟨w,w55.heap.size,[(Ak w),(CV c z),(CW z),(Ja n2 c k y34),(Ff n2 c aP i cP csG aC cC),(Ee c aP i cP z),(DW csG z),(Eb csG aC cC z),(EO y34 n25),(mid (n25+1) w36)]⟩ rfl ⟨rfl,rfl,BQ,rfl,Ae⟩ ?_
      refine AA [] [] (i6 ((Dl c k)+2)) Ae ?_
      intro w58 hw58
      have hs59:=hw58
      refine⟨_,_,rfl,hs59,.inr (fun c hc=>hs59.all c (by first | exact hc | exact Fe (is:=[0,1,2,4,5,6,7,8,9]) rfl c hc)), ?_⟩
      refine DU [1,2,4,5,46,47,48,7,9,68,72,60,64] [(1,pt z),(BG z),(CS n2),(BL n2),(DL c b27 o28),(D5 c),(48,Ac k),(Ec n25),(EW c k cp40 ax39),(68,i6 y48.partition),(72,i6 y48.port),(60,i6 (Dl c k)),(64,i6 ((Dl c k)+2))] ?_
      refine Dj [(14,o0)] [1,2,4,5,46,47,48,7,9,73] [] (DF 15 2) [(1,pt z),(BG z),(CS n2),(BL n2),(DL c b27 o28),(D5 c),(48,Ac k),(Ec n25),(EW c k cp40 ax39),(VM c k y48)] Ae ?_
      refine BC 15 ?_
      refine BH o0 [1,2,4,5,46,47,48,7,9,73,10] [] [(1,pt z),(BG z),(CS n2),(BL n2),(DL c b27 o28),(D5 c),(48,Ac k),(Ec n25),(EW c k cp40 ax39),(VM c k y48),(QV w55)] ⟨w,w55.heap.size+1,[(Ak w),(CV c z),(CW z),(Ja n2 c k y34),(Ff n2 c aP i cP csG aC cC),(Ee c aP i cP z),(DW csG z),(Eb csG aC cC z),(EO y34 n25),(mid (n25+1) w36),(Y1 w55)]⟩ [0,1,2,4,5,6,7,8,9] Ae (.inr rfl) ?_
      refine BC 16 ?_
      refine BH (an 5 10) [1,2,4,5,46,47,48,7,9,10] [Qb w55.heap.size,Qb w55.heap.size,Qb w55.heap.size,Qb w55.heap.size,Qb w55.heap.size] [(1,pt z),(BG z),(CS n2),(BL n2),(DL c b27 o28),(D5 c),(48,Ac k),(Ec n25),(EW c k cp40 ax39),(QV w55)] ⟨w,w55.heap.size+1,(Uw n2 c aP i cP csG k y48 w55 w36 aC cC z y34 n25 w)⟩ [] ⟨rfl,rfl,rfl,rfl,rfl,Ae⟩ (.inl rfl) ?_
      refine Es 17 [0,1,2,3,4,5,6,7,8,9,10] (Uw n2 c aP i cP csG k y48 w55 w36 aC cC z y34 n25 w) rfl rfl ?_
      refine CU ?_
      refine BK [1,2,4,5,46,47,48,7,9,10] [(1,pt z),(BG z),(CS n2),(BL n2),(DL c b27 o28),(D5 c),(48,Ac k),(Ec n25),(EW c k cp40 ax39),(QV w55)] ?_
      refine Cb [0,1,2,3,4,5,6,7,8,9,10] (Uw n2 c aP i cP csG k y48 w55 w36 aC cC z y34 n25 w) rfl rfl ?_
      exact hK ⟨(w55.heap.size+1,w55.heap.size),by first | omega | (dsimp only;omega)⟩
     refine BH o0 [1,2,4,5,46,47,48,7,9,61,68,72,60,63,10] [] [(1,pt z),(BG z),(CS n2),(BL n2),(DL c b27 o28),(D5 c),(48,Ac k),(Ec n25),(EW c k cp40 ax39),(P9 n2),(68,i6 y48.partition),(72,i6 y48.port),(60,i6 (Dl c k)),(63,i6 (BV y34)),(QV w55)] ⟨w,w55.heap.size+1,[(Ak w),(CV c z),(CW z),(VZ n2 c k),(Ff n2 c aP i cP csG aC cC),(Ee c aP i cP z),(DW csG z),(Eb csG aC cC z),(EO y34 n25),(mid (n25+1) w36),(Y1 w55)]⟩ [0,1,2,4,5,6,7,8,9] Ae (.inr rfl) ?_
     refine BC 5 ?_
     refine Jj [] [] 75 #[i6 (BV y34),pt n2] (some 64) (by as_aux_lemma=>kernel_rfl) rfl rfl Ae ?_
     intro w60 hw60
     refine CE (args:=[i6 (BV y34),pt n2]) 10 ⟨w,w55.heap.size+1,[(Ak w),(CV c z),(CW z),(VZ n2 c k),(Ff n2 c aP i cP csG aC cC),(Ee c aP i cP z),(DW csG z),(Eb csG aC cC z),(EO y34 n25),(mid (n25+1) w36),(Y1 w55)]⟩ Tryd.func75 rfl (by kernel_rfl) (by kernel_rfl) hw60 ?_
     refine q_c 17 0 [] [[o0],[(a1 3),o0],[(a1 3),o0,(ov (i6 (((Dl c k)+2)+(BV y34)))),(a1 3)],[o0,o0]] [Qb n2,Qb n2,Wr (((Dl c k)+2:Int)+(BV y34)) (((Dl c k)+2)+(BV y34)),Qb n2] [(3,i6 ((Dl c k)+2))] ⟨w,w55.heap.size+1,[(Ak w),(CV c z),(CW z),(Ja n2 c k y34),(Ff n2 c aP i cP csG aC cC),(Ee c aP i cP z),(DW csG z),(Eb csG aC cC z),(EO y34 n25),(mid (n25+1) w36),(Y1 w55)]⟩ rfl ⟨rfl,rfl,BQ,rfl,Ae⟩ ?_
     refine AA [] [] (i6 ((Dl c k)+2)) Ae ?_
     intro w61 hw61
     have hs62:=hw61
     refine⟨_,_,rfl,hs62,.inr (fun c hc=>hs62.all c (by first | exact hc | exact Fe (is:=[0,1,2,4,5,6,7,8,9]) rfl c hc)), ?_⟩
     refine DU [1,2,4,5,46,47,48,7,9,68,72,60,10,64] [(1,pt z),(BG z),(CS n2),(BL n2),(DL c b27 o28),(D5 c),(48,Ac k),(Ec n25),(EW c k cp40 ax39),(68,i6 y48.partition),(72,i6 y48.port),(60,i6 (Dl c k)),(QV w55),(64,i6 ((Dl c k)+2))] ?_
     refine Dj [(14,o0)] [1,2,4,5,46,47,48,7,9,10,73] [] (DF 16 1) [(1,pt z),(BG z),(CS n2),(BL n2),(DL c b27 o28),(D5 c),(48,Ac k),(Ec n25),(EW c k cp40 ax39),(QV w55),(VM c k y48)] Ae ?_
     refine BC 16 ?_
     refine BH (an 5 10) [1,2,4,5,46,47,48,7,9,10] [Qb w55.heap.size,Qb w55.heap.size,Qb w55.heap.size,Qb w55.heap.size,Qb w55.heap.size] [(1,pt z),(BG z),(CS n2),(BL n2),(DL c b27 o28),(D5 c),(48,Ac k),(Ec n25),(EW c k cp40 ax39),(QV w55)] ⟨w,w55.heap.size+1,(Uw n2 c aP i cP csG k y48 w55 w36 aC cC z y34 n25 w)⟩ [] ⟨rfl,rfl,rfl,rfl,rfl,Ae⟩ (.inl rfl) ?_
     refine Es 17 [0,1,2,3,4,5,6,7,8,9,10] (Uw n2 c aP i cP csG k y48 w55 w36 aC cC z y34 n25 w) rfl rfl ?_
     refine CU ?_
     refine BK [1,2,4,5,46,47,48,7,9,10] [(1,pt z),(BG z),(CS n2),(BL n2),(DL c b27 o28),(D5 c),(48,Ac k),(Ec n25),(EW c k cp40 ax39),(QV w55)] ?_
     refine Cb [0,1,2,3,4,5,6,7,8,9,10] (Uw n2 c aP i cP csG k y48 w55 w36 aC cC z y34 n25 w) rfl rfl ?_
     exact hK ⟨(w55.heap.size+1,w55.heap.size),by first | omega | (dsimp only;omega)⟩
    refine BH o0 [1,2,4,5,46,47,48,7,9,61,62,68,72,60,10] [] [(1,pt z),(BG z),(CS n2),(BL n2),(DL c b27 o28),(D5 c),(48,Ac k),(Ec n25),(EW c k cp40 ax39),(P9 n2),(62,.agg (AL.arr y34)),(68,i6 y48.partition),(72,i6 y48.port),(60,i6 (Dl c k)),(MZ w36)] ⟨w,w36.heap.size+1,(YA n2 c aP i cP csG k w36 aC cC z y34 n25 w)⟩ [0,1,2,4,5,6,7,8,9] Ae (.inr rfl) ?_
    refine BC 4 ?_
    refine Jj [] [] 59 #[.agg (AL.arr y34)] (some 63) (by as_aux_lemma=>kernel_rfl) rfl rfl Ae ?_
    intro w63 hw63
    refine(Q3 w63 y34 (he33.ext (hw63.ext rfl) (fun _ h=>h))).mono ?_
    rintro e w64 ⟨rfl,hkw64⟩
    have hnw64:w36.heap.size+1≤w64.heap.size:=Fg hw63 hkw64
    have hs65:=hw63.keeps hkw64
    refine⟨_,_,rfl,hs65,.inr (fun c hc=>hs65.all c (by first | exact hc | exact Fe (is:=[0,1,2,4,5,6,7,8,9]) rfl c hc)), ?_⟩
    refine DU [1,2,4,5,46,47,48,7,9,61,68,72,60,10,63] [(1,pt z),(BG z),(CS n2),(BL n2),(DL c b27 o28),(D5 c),(48,Ac k),(Ec n25),(EW c k cp40 ax39),(P9 n2),(68,i6 y48.partition),(72,i6 y48.port),(60,i6 (Dl c k)),(MZ w36),(63,i6 (BV y34))] ?_
    refine BC 5 ?_
    refine Jj [] [] 75 #[i6 (BV y34),pt n2] (some 64) (by as_aux_lemma=>kernel_rfl) rfl rfl Ae ?_
    intro w66 hw66
    refine CE (args:=[i6 (BV y34),pt n2]) 10 ⟨w,w64.heap.size,(YA n2 c aP i cP csG k w36 aC cC z y34 n25 w)⟩ Tryd.func75 rfl (by kernel_rfl) (by kernel_rfl) hw66 ?_
    refine q_c 17 0 [] [[o0],[(a1 3),o0],[(a1 3),o0,(ov (i6 (((Dl c k)+2)+(BV y34)))),(a1 3)],[o0,o0]] [Qb n2,Qb n2,Wr (((Dl c k)+2:Int)+(BV y34)) (((Dl c k)+2)+(BV y34)),Qb n2] [(3,i6 ((Dl c k)+2))] ⟨w,w64.heap.size,[(Ak w),(CV c z),(CW z),(Ja n2 c k y34),(Ff n2 c aP i cP csG aC cC),(Ee c aP i cP z),(DW csG z),(Eb csG aC cC z),(EO y34 n25),(mid (n25+1) w36),(VX w36)]⟩ rfl ⟨rfl,rfl,BQ,rfl,Ae⟩ ?_
    refine AA [] [] (i6 ((Dl c k)+2)) Ae ?_
    intro w67 hw67
    have hs68:=hw67
    refine⟨_,_,rfl,hs68,.inr (fun c hc=>hs68.all c (by first | exact hc | exact Fe (is:=[0,1,2,4,5,6,7,8,9]) rfl c hc)), ?_⟩
    refine DU [1,2,4,5,46,47,48,7,9,68,72,60,10,64] [(1,pt z),(BG z),(CS n2),(BL n2),(DL c b27 o28),(D5 c),(48,Ac k),(Ec n25),(EW c k cp40 ax39),(68,i6 y48.partition),(72,i6 y48.port),(60,i6 (Dl c k)),(MZ w36),(64,i6 ((Dl c k)+2))] ?_
    refine Dj [(14,o0)] [1,2,4,5,46,47,48,7,9,10,73] [] (DF 16 1) [(1,pt z),(BG z),(CS n2),(BL n2),(DL c b27 o28),(D5 c),(48,Ac k),(Ec n25),(EW c k cp40 ax39),(MZ w36),(VM c k y48)] Ae ?_
    refine BC 16 ?_
    refine BH (an 5 10) [1,2,4,5,46,47,48,7,9,10] [Qb w36.heap.size,Qb w36.heap.size,Qb w36.heap.size,Qb w36.heap.size,Qb w36.heap.size] [(1,pt z),(BG z),(CS n2),(BL n2),(DL c b27 o28),(D5 c),(48,Ac k),(Ec n25),(EW c k cp40 ax39),(MZ w36)] ⟨w,w64.heap.size,(Uo n2 c aP i cP csG k y48 w36 aC cC z y34 n25 w)⟩ [] ⟨rfl,rfl,rfl,rfl,rfl,Ae⟩ (.inl rfl) ?_
    refine Es 17 [0,1,2,3,4,5,6,7,8,9,10] (Uo n2 c aP i cP csG k y48 w36 aC cC z y34 n25 w) rfl rfl ?_
    refine CU ?_
    refine BK [1,2,4,5,46,47,48,7,9,10] [(1,pt z),(BG z),(CS n2),(BL n2),(DL c b27 o28),(D5 c),(48,Ac k),(Ec n25),(EW c k cp40 ax39),(MZ w36)] ?_
    refine Cb [0,1,2,3,4,5,6,7,8,9,10] (Uo n2 c aP i cP csG k y48 w36 aC cC z y34 n25 w) rfl rfl ?_
    exact hK ⟨(w64.heap.size,w36.heap.size),by first | omega | (dsimp only;omega)⟩
   refine BH o0 [1,2,4,5,46,47,48,7,9,59,61,62,68,72,10] [] [(1,pt z),(BG z),(CS n2),(BL n2),(DL c b27 o28),(D5 c),(48,Ac k),(Ec n25),(EW c k cp40 ax39),(59,.func (.func 75) #[] #[pt n2]),(P9 n2),(62,.agg (AL.arr y34)),(68,i6 y48.partition),(72,i6 y48.port),(MZ w36)] ⟨w,w36.heap.size+1,[(Ak w),(CV c z),(CW z),(FK n2 c k),(Ff n2 c aP i cP csG aC cC),(Ee c aP i cP z),(DW csG z),(Eb csG aC cC z),(EO y34 n25),(mid (n25+1) w36),(VX w36)]⟩ [0,1,2,4,5,6,7,8,9] Ae (.inr rfl) ?_
   refine BC 1 ?_
   refine Jj [] [] 75 #[i6 2,pt n2] (some 60) (by as_aux_lemma=>kernel_rfl) rfl rfl Ae ?_
   intro w69 hw69
   refine CE (args:=[i6 2,pt n2]) 10 ⟨w,w36.heap.size+1,[(Ak w),(CV c z),(CW z),(FK n2 c k),(Ff n2 c aP i cP csG aC cC),(Ee c aP i cP z),(DW csG z),(Eb csG aC cC z),(EO y34 n25),(mid (n25+1) w36),(VX w36)]⟩ Tryd.func75 rfl (by kernel_rfl) (by kernel_rfl) hw69 ?_
   refine q_c 17 0 [] [[o0],[(a1 3),o0],[(a1 3),o0,(ov (i6 ((Dl c k)+2))),(a1 3)],[o0,o0]] [Qb n2,Qb n2,Wr ((Dl c k:Int)+2) ((Dl c k)+2),Qb n2] [(3,i6 (Dl c k))] ⟨w,w36.heap.size+1,(YA n2 c aP i cP csG k w36 aC cC z y34 n25 w)⟩ rfl ⟨rfl,rfl,BQ,rfl,Ae⟩ ?_
   refine AA [] [] (i6 (Dl c k)) Ae ?_
   intro w70 hw70
   have hs71:=hw70
   refine⟨_,_,rfl,hs71,.inr (fun c hc=>hs71.all c (by first | exact hc | exact Fe (is:=[0,1,2,4,5,6,7,8,9]) rfl c hc)), ?_⟩
   refine DU [1,2,4,5,46,47,48,7,9,61,62,68,72,10,60] [(1,pt z),(BG z),(CS n2),(BL n2),(DL c b27 o28),(D5 c),(48,Ac k),(Ec n25),(EW c k cp40 ax39),(P9 n2),(62,.agg (AL.arr y34)),(68,i6 y48.partition),(72,i6 y48.port),(MZ w36),(60,i6 (Dl c k))] ?_
   refine BC 4 ?_
   refine Jj [] [] 59 #[.agg (AL.arr y34)] (some 63) (by as_aux_lemma=>kernel_rfl) rfl rfl Ae ?_
   intro w72 hw72
   refine(Q3 w72 y34 (he33.ext (hw72.ext rfl) (fun _ h=>h))).mono ?_
   rintro e w73 ⟨rfl,hkw73⟩
   have hnw73:w36.heap.size+1≤w73.heap.size:=Fg hw72 hkw73
   have hs74:=hw72.keeps hkw73
   refine⟨_,_,rfl,hs74,.inr (fun c hc=>hs74.all c (by first | exact hc | exact Fe (is:=[0,1,2,4,5,6,7,8,9]) rfl c hc)), ?_⟩
   refine DU [1,2,4,5,46,47,48,7,9,61,68,72,10,60,63] [(1,pt z),(BG z),(CS n2),(BL n2),(DL c b27 o28),(D5 c),(48,Ac k),(Ec n25),(EW c k cp40 ax39),(P9 n2),(68,i6 y48.partition),(72,i6 y48.port),(MZ w36),(60,i6 (Dl c k)),(63,i6 (BV y34))] ?_
   refine BC 5 ?_
   refine Jj [] [] 75 #[i6 (BV y34),pt n2] (some 64) (by as_aux_lemma=>kernel_rfl) rfl rfl Ae ?_
   intro w75 hw75
   refine CE (args:=[i6 (BV y34),pt n2]) 10 ⟨w,w73.heap.size,(YA n2 c aP i cP csG k w36 aC cC z y34 n25 w)⟩ Tryd.func75 rfl (by kernel_rfl) (by kernel_rfl) hw75 ?_
   refine q_c 17 0 [] [[o0],[(a1 3),o0],[(a1 3),o0,(ov (i6 (((Dl c k)+2)+(BV y34)))),(a1 3)],[o0,o0]] [Qb n2,Qb n2,Wr (((Dl c k)+2:Int)+(BV y34)) (((Dl c k)+2)+(BV y34)),Qb n2] [(3,i6 ((Dl c k)+2))] ⟨w,w73.heap.size,[(Ak w),(CV c z),(CW z),(Ja n2 c k y34),(Ff n2 c aP i cP csG aC cC),(Ee c aP i cP z),(DW csG z),(Eb csG aC cC z),(EO y34 n25),(mid (n25+1) w36),(VX w36)]⟩ rfl ⟨rfl,rfl,BQ,rfl,Ae⟩ ?_
   refine AA [] [] (i6 ((Dl c k)+2)) Ae ?_
   intro w76 hw76
   have hs77:=hw76
   refine⟨_,_,rfl,hs77,.inr (fun c hc=>hs77.all c (by first | exact hc | exact Fe (is:=[0,1,2,4,5,6,7,8,9]) rfl c hc)), ?_⟩
   refine DU [1,2,4,5,46,47,48,7,9,68,72,10,60,64] [(1,pt z),(BG z),(CS n2),(BL n2),(DL c b27 o28),(D5 c),(48,Ac k),(Ec n25),(EW c k cp40 ax39),(68,i6 y48.partition),(72,i6 y48.port),(MZ w36),(60,i6 (Dl c k)),(64,i6 ((Dl c k)+2))] ?_
   refine Dj [(14,o0)] [1,2,4,5,46,47,48,7,9,10,73] [] (DF 16 1) [(1,pt z),(BG z),(CS n2),(BL n2),(DL c b27 o28),(D5 c),(48,Ac k),(Ec n25),(EW c k cp40 ax39),(MZ w36),(VM c k y48)] Ae ?_
   refine BC 16 ?_
   refine BH (an 5 10) [1,2,4,5,46,47,48,7,9,10] [Qb w36.heap.size,Qb w36.heap.size,Qb w36.heap.size,Qb w36.heap.size,Qb w36.heap.size] [(1,pt z),(BG z),(CS n2),(BL n2),(DL c b27 o28),(D5 c),(48,Ac k),(Ec n25),(EW c k cp40 ax39),(MZ w36)] ⟨w,w73.heap.size,(Uo n2 c aP i cP csG k y48 w36 aC cC z y34 n25 w)⟩ [] ⟨rfl,rfl,rfl,rfl,rfl,Ae⟩ (.inl rfl) ?_
   refine Es 17 [0,1,2,3,4,5,6,7,8,9,10] (Uo n2 c aP i cP csG k y48 w36 aC cC z y34 n25 w) rfl rfl ?_
   refine CU ?_
   refine BK [1,2,4,5,46,47,48,7,9,10] [(1,pt z),(BG z),(CS n2),(BL n2),(DL c b27 o28),(D5 c),(48,Ac k),(Ec n25),(EW c k cp40 ax39),(MZ w36)] ?_
   refine Cb [0,1,2,3,4,5,6,7,8,9,10] (Uo n2 c aP i cP csG k y48 w36 aC cC z y34 n25 w) rfl rfl ?_
   exact hK ⟨(w73.heap.size,w36.heap.size),by first | omega | (dsimp only;omega)⟩
  rintro⟨⟨n49,b50⟩,hJ78⟩
  simp only at hJ78
  show E _ _ [(1,pt z),(BG z),(CS n2),(BL n2),(DL c b27 o28),(D5 c),(48,Ac k),(Ec n25),(EW c k cp40 ax39),(GR b50)] _ ⟨w,n49,[(Ak w),(CV c z),(CW z),(Ja n2 c k y34),(Ff n2 c aP i cP csG aC cC),(Ee c aP i cP z),(DW csG z),(Eb csG aC cC z),(EO y34 n25),(mid (n25+1) w36),(bk b50 #[i6 (Dl c k),i6 ((Dl c k)+2),i6 y48.partition,i6 y48.port,.slice none 0 0] 104)]⟩ _ _ _
  refine Jw 7 0 [] [[o0,o0,o0]] [] [(1,pt z),(BG z),(CS n2),(BL n2),(DL c b27 o28),(D5 c),(48,Ac k),(Ec n25),(GR b50),(JH c k cp40 ax39),(GY c k),(76,i6 0)] rfl Ae ?_
  refine OZ z 106 3 BO.cells ?_
  refine DC [1,2,4,5,7,10,46,47,48,74,75,76] [(1,pt z),(BG z),(CS n2),(BL n2),(Ec n25),(GR b50),(DL c b27 o28),(D5 c),(48,Ac k),(JH c k cp40 ax39),(GY c k),(76,i6 0)] ?_
  refine Di (fun m a w'=>∃ (n80:Nat) (j:Nat) (aD:Option Addr) (cD:Nat),m=(CQ c (k:Int) false).length - j∧n49≤n80∧(j≤(CQ c (k:Int) false).length)∧St 148 [(1,pt z),(BG z),(CS n2),(BL n2),(Ec n25),(GR b50),(DL c b27 o28),(D5 c),(48,Ac k),(JH c k cp40 ax39),(GY c k),(76,Ac j)] [] ⟨w,n80,[(Ak w),(CV c z),(CW z),(Jm n2 c k j),(Ff n2 c aP i cP csG aC cC),(Ee c aP i cP z),(DW csG z),(Eb csG aC cC z),(EO y34 n25),(mid (n25+1) w36),(JA c k y48 aD cD j b50),(Jo c k aD cD j z)]⟩ a w') ((CQ c (k:Int) false).length - 0) ?_ ?_
  ·intro a w' hs;exact⟨n49,0,none,0,rfl,Nat.le_refl _,Nat.zero_le _,by(try dsimp only[JA,Ff,Ib,CW,Ja,Jm,FK,EO,CV,Ee,Jo,Eb,DW,DL,GY,Jn,P9,CS,JH,EW,Gv,D5,BL,BG,GR,Ec,Jy,Jl]at hs ⊢);rw[show IR c k 0=((Dl c k)+2)+(BV y34)from by unfold IR;rw[←hy34];omega];exact hs⟩
  rintro m a w' ⟨n80,j,aD,cD,rfl,hn79,hkj,hs⟩
  refine(?_:G Tryd.prog 148 [(1,pt z),(BG z),(CS n2),(BL n2),(Ec n25),(GR b50),(DL c b27 o28),(D5 c),(48,Ac k),(JH c k cp40 ax39),(GY c k),(76,Ac j)] [] ⟨w,n80,[(Ak w),(CV c z),(CW z),(Jm n2 c k j),(Ff n2 c aP i cP csG aC cC),(Ee c aP i cP z),(DW csG z),(Eb csG aC cC z),(EO y34 n25),(mid (n25+1) w36),(JA c k y48 aD cD j b50),(Jo c k aD cD j z)]⟩ _ _ _) a w' hs
  clear hs a w'
  have hdb:=Zcg hfine (show k<c.Ag.xs.length by omega) (show j≤4 by unfold Kw at hEd;omega)
  have hdl:(FD c k j).length=j:=Vs
  refine Ce ?_
  by_cases h81:(j:Int)<(((CQ c (k:Int) false).length:Nat):Int)
  ·refine Az 10 0 [1] [[oT]] [BT ((j:Int)<(((CQ c (k:Int) false).length:Nat):Int))] [(1,pt z),(BG z),(CS n2),(BL n2),(Ec n25),(GR b50),(DL c b27 o28),(D5 c),(48,Ac k),(JH c k cp40 ax39),(GY c k),(76,Ac j),(77,.bool true)] rfl ⟨bt,Ae⟩ ?_
   obtain⟨b82,o83,ha84,hF86,hc85⟩:=((⟨hDw36,WE hfine⟩:Je GH.cells 2 GH.ok _ _ _)).1.all (show 0<(CQ c (k:Int) false).length by omega)
   replace ha84:ax39=some ⟨b82,o83,none⟩:=ha84
   refine MQ [(1,pt z),(BG z),(CS n2),(BL n2),(Ec n25),(GR b50),(DL c b27 o28),(D5 c),(48,Ac k),(KX c k b82 o83 cp40),(GY c k),(76,Ac j),(77,.bool true)] (by(try dsimp only[JA,Ff,Ib,CW,Ja,Jm,FK,EO,CV,Ee,Jo,Eb,DW,KX,DL,GY,Jn,CS,JH,EW,Gv,D5,BL,BG,GR,Ec,Jy,Jl]);simp only[ha84]) ?_
   have hc87:=hc85 j (show j<(CQ c (k:Int) false).length by omega)
   have he88:=((⟨hDw36,WE hfine⟩:Je GH.cells 2 GH.ok _ _ _)).2 j (show j<(CQ c (k:Int) false).length by omega)
   obtain⟨y89,hy89⟩:∃ y_,y_=gd (⟨ax39,cp40,CQ c (k:Int) false⟩:Sl GH).xs j:=⟨_,rfl⟩
   rw[←hy89]at he88 hc87
   refine q_c 3 0 [] [[(oi j),(oa [.via 9 (i6 y89.partition),.via 9 (i6 y89.port)]),o0,(an 2 12)]] [Ci j,j<(CQ c (k:Int) false).length,BN,∀ w',Ch.holds (mid (n25+1) w36) w'→w'.cell? ⟨b82,o83+j*2,none⟩=some (i6 y89.partition),∀ w',Ch.holds (mid (n25+1) w36) w'→w'.cell? ⟨b82,o83+j*2+1,none⟩=some (i6 y89.port),Qb n80,Qb n80] [(1,pt z),(BG z),(CS n2),(BL n2),(Ec n25),(GR b50),(DL c b27 o28),(D5 c),(48,Ac k),(KX c k b82 o83 cp40),(GY c k),(76,Ac j),(12,pt n80)] ⟨w,n80+1,[(Ak w),(CV c z),(CW z),(Jm n2 c k j),(Ff n2 c aP i cP csG aC cC),(Ee c aP i cP z),(DW csG z),(Eb csG aC cC z),(EO y34 n25),(mid (n25+1) w36),(JA c k y48 aD cD j b50),(Jo c k aD cD j z),(O8 y89 n80)]⟩ rfl ⟨rfl,(by omega),rfl,Oo hF86 (hc87 0 _ rfl),Oo hF86 (hc87 1 _ rfl),rfl,rfl,Ae⟩ ?_
   refine Eh 14 [0,1,2,4,5,6,7,8,9,10,12] [(Ak w),(CV c z),(CW z),(Ff n2 c aP i cP csG aC cC),(Ee c aP i cP z),(DW csG z),(Eb csG aC cC z),(EO y34 n25),(mid (n25+1) w36),(JA c k y48 aD cD j b50),(O8 y89 n80)] rfl rfl ?_
   refine Dj [(0,o0),(1,(a1 9)),(2,o0),(3,(a1 10)),(4,o0),(5,(a1 10)),(6,o0),(7,(an 3 7))] [1,2,4,5,7,10,46,47,48,74,75,76,81,83,85,86,87] [Qb b50,Qb n80,Qb n80,Qb n25,Qb n25,Qb n25] (DF 8 7) [(1,pt z),(BG z),(CS n2),(BL n2),(Ec n25),(GR b50),(DL c b27 o28),(D5 c),(48,Ac k),(KX c k b82 o83 cp40),(GY c k),(76,Ac j),(81,.slice aD ((FD c k j).length) cD),(83,i6 y89.partition),(85,i6 y89.port),(86,.func (.func 75) #[] #[pt n2]),(87,.agg (AL.arr y34))] ⟨rfl,rfl,rfl,rfl,rfl,rfl,Ae⟩ ?_
   refine BC 8 ?_
   refine Jj [] [] 60 #[.agg (AL.arr y34)] (some 88) (by as_aux_lemma=>kernel_rfl) rfl rfl Ae ?_
   intro w90 hw90
   refine(port_calls w90 y34 (he33.ext (hw90.ext rfl) (fun _ h=>h))).mono ?_
   rintro e w91 ⟨rfl,hkw91⟩
   have hnw91:n80+1≤w91.heap.size:=Fg hw90 hkw91
   have hs92:=hw90.keeps hkw91
   refine⟨_,_,rfl,hs92,.inr (fun c hc=>hs92.all c (by first | exact hc | exact Fe (is:=[0,1,2,4,5,6,7,8,9,10,12]) rfl c hc)), ?_⟩
   refine DU [1,2,4,5,7,10,46,47,48,74,75,76,81,83,85,86,88] [(1,pt z),(BG z),(CS n2),(BL n2),(Ec n25),(GR b50),(DL c b27 o28),(D5 c),(48,Ac k),(KX c k b82 o83 cp40),(GY c k),(76,Ac j),(81,.slice aD ((FD c k j).length) cD),(83,i6 y89.partition),(85,i6 y89.port),(86,.func (.func 75) #[] #[pt n2]),(88,i6 (portOf y34))] ?_
   refine BC 9 ?_
   refine Jj [] [] 75 #[i6 (portOf y34),pt n2] (some 89) (by as_aux_lemma=>kernel_rfl) rfl rfl Ae ?_
   intro w93 hw93
   refine CE (args:=[i6 (portOf y34),pt n2]) 10 ⟨w,w91.heap.size,[(Ak w),(CV c z),(CW z),(Jm n2 c k j),(Ff n2 c aP i cP csG aC cC),(Ee c aP i cP z),(DW csG z),(Eb csG aC cC z),(EO y34 n25),(mid (n25+1) w36),(JA c k y48 aD cD j b50),(Jo c k aD cD j z),(O8 y89 n80)]⟩ Tryd.func75 rfl (by kernel_rfl) (by kernel_rfl) hw93 ?_
   refine q_c 17 0 [] [[o0],[(a1 3),o0],[(a1 3),o0,(ov (i6 ((IR c k j)+(portOf y34)))),(a1 3)],[o0,o0]] [Qb n2,Qb n2,Wr ((IR c k j:Int)+(portOf y34)) ((IR c k j)+(portOf y34)),Qb n2] [(3,i6 (IR c k j))] ⟨w,w91.heap.size,[(Ak w),(CV c z),(CW z),(Qr n2 c k j y34),(Ff n2 c aP i cP csG aC cC),(Ee c aP i cP z),(DW csG z),(Eb csG aC cC z),(EO y34 n25),(mid (n25+1) w36),(JA c k y48 aD cD j b50),(Jo c k aD cD j z),(O8 y89 n80)]⟩ rfl ⟨rfl,rfl,BQ,rfl,Ae⟩ ?_
   refine AA [] [] (i6 (IR c k j)) Ae ?_
   intro w94 hw94
   have hs95:=hw94
   refine⟨_,_,rfl,hs95,.inr (fun c hc=>hs95.all c (by first | exact hc | exact Fe (is:=[0,1,2,4,5,6,7,8,9,10,12]) rfl c hc)), ?_⟩
   refine DU [1,2,4,5,7,10,46,47,48,74,75,76,81,83,85,89] [(1,pt z),(BG z),(CS n2),(BL n2),(Ec n25),(GR b50),(DL c b27 o28),(D5 c),(48,Ac k),(KX c k b82 o83 cp40),(GY c k),(76,Ac j),(81,.slice aD ((FD c k j).length) cD),(83,i6 y89.partition),(85,i6 y89.port),(89,i6 (IR c k j))] ?_
   refine Dj [(10,o0)] [1,2,4,5,7,10,46,47,48,74,75,76,81,90] [] (DF 11 4) [(1,pt z),(BG z),(CS n2),(BL n2),(Ec n25),(GR b50),(DL c b27 o28),(D5 c),(48,Ac k),(KX c k b82 o83 cp40),(GY c k),(76,Ac j),(81,.slice aD ((FD c k j).length) cD),(90,.agg #[i6 y89.partition,i6 y89.port,i6 (IR c k j)])] Ae ?_
   refine BC 11 ?_
   refine BH o0 [1,2,4,5,7,10,46,47,48,74,75,76,81,91] [] [(1,pt z),(BG z),(CS n2),(BL n2),(Ec n25),(GR b50),(DL c b27 o28),(D5 c),(48,Ac k),(KX c k b82 o83 cp40),(GY c k),(76,Ac j),(81,.slice aD ((FD c k j).length) cD),(91,.slice (some ⟨w91.heap.size,0,none⟩) 1 1)] ⟨w,w91.heap.size+1,[(Ak w),(CV c z),(CW z),(Qr n2 c k j y34),(Ff n2 c aP i cP csG aC cC),(Ee c aP i cP z),(DW csG z),(Eb csG aC cC z),(EO y34 n25),(mid (n25+1) w36),(JA c k y48 aD cD j b50),(Jo c k aD cD j z),(O8 y89 n80),(Tc c k j y89 w91)]⟩ [0,1,2,4,5,6,7,8,9,10,12] Ae (.inr rfl) ?_
   refine BC 12 ?_
   refine W9 z 11 13 (FD c k j) [(⟨y89.partition,y89.port,IR c k j⟩:BO)] BO.cells 106 3 24 (.slice aD ((FD c k j).length) cD) w91.heap.size 1 1 #[i6 y89.partition,i6 y89.port,i6 (IR c k j)] 106 (0,0) true (some 92) [0,1,2,4,5,6,7,8,9,10,12] (by simp only[List.length_cons,List.length_nil];omega) (show z≤w91.heap.size+1 by omega) (.inr ⟨rfl,rfl⟩) (fun ax96 cp97 n98 (hn99:w91.heap.size+1≤n98) => ?_)
   refine DU [1,2,4,5,7,10,46,47,48,74,75,76,92] [(1,pt z),(BG z),(CS n2),(BL n2),(Ec n25),(GR b50),(DL c b27 o28),(D5 c),(48,Ac k),(KX c k b82 o83 cp40),(GY c k),(76,Ac j),(92,.slice ax96 ((FD c k j++[(⟨y89.partition,y89.port,IR c k j⟩:BO)]).length) cp97)] ?_
   refine Dj [(13,o0)] [1,2,4,5,7,10,46,47,48,74,75,76,92,93] [] (DF 14 1) [(1,pt z),(BG z),(CS n2),(BL n2),(Ec n25),(GR b50),(DL c b27 o28),(D5 c),(48,Ac k),(KX c k b82 o83 cp40),(GY c k),(76,Ac j),(92,.slice ax96 ((FD c k j++[(⟨y89.partition,y89.port,IR c k j⟩:BO)]).length) cp97),(93,.pointer (some ⟨b50,4,none⟩))] Ae ?_
   refine BC 14 ?_
   refine BH (a1 10) [1,2,4,5,7,10,46,47,48,74,75,76] [Qb b50] [(1,pt z),(BG z),(CS n2),(BL n2),(Ec n25),(GR b50),(DL c b27 o28),(D5 c),(48,Ac k),(KX c k b82 o83 cp40),(GY c k),(76,Ac j)] ⟨w,n98,[(Ak w),(CV c z),(CW z),(Qr n2 c k j y34),(Ff n2 c aP i cP csG aC cC),(Ee c aP i cP z),(DW csG z),(Eb csG aC cC z),(EO y34 n25),(mid (n25+1) w36),(UY c k y48 j b50 ax96 y89 cp97),(SV c k j ax96 y89 cp97 z),(O8 y89 n80),(Tc c k j y89 w91)]⟩ [] ⟨rfl,Ae⟩ (.inl rfl) ?_
   refine Es 15 [0,1,2,3,4,5,6,7,8,9,10,11,12,13] [(Ak w),(CV c z),(CW z),(Qr n2 c k j y34),(Ff n2 c aP i cP csG aC cC),(Ee c aP i cP z),(DW csG z),(Eb csG aC cC z),(EO y34 n25),(mid (n25+1) w36),(UY c k y48 j b50 ax96 y89 cp97),(SV c k j ax96 y89 cp97 z),(O8 y89 n80),(Tc c k j y89 w91)] rfl rfl ?_
   refine CU ?_
   refine Jw 4 0 [] [[(ov (i6 ((j+1:Nat):Int))),o0]] [Wr ((j:Int)+1) (((j+1:Nat):Int))] [(1,pt z),(BG z),(CS n2),(BL n2),(Ec n25),(GR b50),(DL c b27 o28),(D5 c),(48,Ac k),(KX c k b82 o83 cp40),(GY c k),(76,i6 ((j+1:Nat):Int))] rfl ⟨BQ,Ae⟩ ?_
   refine Cb [0,1,2,3,4,5,6,7,8,9,10,11] [(Ak w),(CV c z),(CW z),(Qr n2 c k j y34),(Ff n2 c aP i cP csG aC cC),(Ee c aP i cP z),(DW csG z),(Eb csG aC cC z),(EO y34 n25),(mid (n25+1) w36),(UY c k y48 j b50 ax96 y89 cp97),(SV c k j ax96 y89 cp97 z)] rfl rfl ?_
   refine H5 [1,2,4,5,7,10,46,47,48,74,75,76] [(1,pt z),(BG z),(CS n2),(BL n2),(Ec n25),(GR b50),(DL c b27 o28),(D5 c),(48,Ac k),(JH c k cp40 ax39),(GY c k),(76,i6 ((j+1:Nat):Int))] (by(try dsimp only[UY,JA,Ff,Ib,Tc,CW,Ja,Qr,Jm,FK,EO,O8,CV,SV,Ee,Jo,Eb,DW,KX,DL,GY,Jn,CS,JH,EW,Gv,D5,BL,BG,GR,Ec,Jy,Jl]);simp only[ha84];rfl) ?_
   refine BD (fun a w' hs=>⟨(CQ c (k:Int) false).length - (j+1),by omega,n98,(j+1),ax96,cp97,rfl,by omega,by omega,by(try dsimp only[UY,JA,Ff,Ib,Tc,CW,Ja,Qr,Jm,FK,EO,O8,CV,SV,Ee,Jo,Eb,DW,KX,DL,GY,Jn,CS,JH,EW,Gv,D5,BL,BG,GR,Ec,Jy,Jl]at hs ⊢);rw[Zc5,Xu,←hy34,show QA c k j=⟨y89.partition,y89.port,IR c k j⟩from by rw[hy89];rfl];exact hs⟩)
  refine q_c 11 4 [0] [[oF],[o0,(a1 4),(an 5 10),o0]] [BF ((j:Int)<(((CQ c (k:Int) false).length:Nat):Int)),Qb (n2+1),Qb b50,Qb b50,Qb b50,Qb b50,Qb b50] [(1,pt z),(BG z),(CS n2),(BL n2),(DL c b27 o28),(D5 c),(48,Ac k),(96,.slice aC csG.length cC),(98,.slice (some ⟨n80,0,none⟩) 1 1)] ⟨w,n80+1,[(Ak w),(CV c z),(CW z),(Jm n2 c k j),(Ff n2 c aP i cP csG aC cC),(Ee c aP i cP z),(DW csG z),(Eb csG aC cC z),(EO y34 n25),(mid (n25+1) w36),(JA c k y48 aD cD j b50),(Jo c k aD cD j z),(Xn c k y48 aD cD j n80)]⟩ rfl ⟨bf,rfl,rfl,rfl,rfl,rfl,rfl,Ae⟩ ?_
  refine PW z 7 12 csG [(⟨Dl c k,(Dl c k)+2,y48.partition,y48.port,(⟨aD,cD,FD c k j⟩:Sl BO)⟩:AC)] AC.cells 104 5 56 (.slice aC csG.length cC) n80 1 1 #[i6 (Dl c k),i6 ((Dl c k)+2),i6 y48.partition,i6 y48.port,.slice aD ((FD c k j).length) cD] 104 (0,0) true (some 99) (by simp only[List.length_cons,List.length_nil];omega) (show z≤n80+1 by omega) (fun ax100 cp101 n102 (hn103:n80+1≤n102) => ?_)
  refine EY 5 0 [] [[o0,(a1 4)],[(ov (i6 ((k+1:Nat):Int))),o0]] [Qb (n2+1),Wr ((k:Int)+1) (((k+1:Nat):Int))] [(1,pt z),(BG z),(CS n2),(BL n2),(DL c b27 o28),(D5 c),(48,i6 ((k+1:Nat):Int))] ⟨w,n102,[(Ak w),(CV c z),(CW z),(Jm n2 c k j),(XL n2 c aP i cP ax100 csG k y48 aD cD j cp101),(Ee c aP i cP z),(DW csG z),(Vy c ax100 csG k y48 aD cD j cp101 z),(EO y34 n25),(mid (n25+1) w36),(JA c k y48 aD cD j b50),(Jo c k aD cD j z),(Xn c k y48 aD cD j n80)]⟩ rfl ⟨rfl,BQ,Ae⟩ ?_
  refine Ua 6 11 [0,1,2,3,4,5,7,8,9,10,12] [(Ak w),(CV c z),(CW z),(Jm n2 c k j),(XL n2 c aP i cP ax100 csG k y48 aD cD j cp101),(Ee c aP i cP z),(Vy c ax100 csG k y48 aD cD j cp101 z),(EO y34 n25),(mid (n25+1) w36),(JA c k y48 aD cD j b50),(Xn c k y48 aD cD j n80)] ?_
  refine Cb [0,1,2,3,4,5,11,6] [(Ak w),(CV c z),(CW z),(Jm n2 c k j),(XL n2 c aP i cP ax100 csG k y48 aD cD j cp101),(Ee c aP i cP z),(Be z 106 3 BO.cells (csG.map AC.Ed++[⟨aD,cD,FD c k j⟩])),(Vy c ax100 csG k y48 aD cD j cp101 z)] rfl rfl ?_
  refine H5 [1,2,4,5,46,47,48] [(1,pt z),(BG z),(CS n2),(BL n2),(Jn c),(D5 c),(48,i6 ((k+1:Nat):Int))] (by(try dsimp only[XL,UY,JA,Xn,Ff,Ib,Tc,CW,Ja,Qr,Jm,FK,EO,O8,CV,Vy,SV,Ee,Jo,Eb,DW,KX,DL,GY,Jn,CS,JH,EW,Gv,D5,BL,BG,GR,Ec,Jy,Jl]);simp only[ha29];rfl) ?_
  refine BD (fun a w' hs=>⟨c.Ag.xs.length - (k+1),by omega,n102,(k+1),(csG++[(⟨Dl c k,(Dl c k)+2,y48.partition,y48.port,(⟨aD,cD,FD c k j⟩:Sl BO)⟩:AC)]),ax100,cp101,rfl,by omega,by omega,by rw[List.length_append,hcl];rfl,chans_push hcl hcs (a:=aD) (cp:=cD) (by unfold Ku;rw[←hy48,show Kw c k=j from by unfold Kw;omega]),by(try dsimp only[XL,UY,JA,Xn,Ff,Ib,Tc,CW,Ja,Qr,Jm,FK,EO,O8,CV,Vy,SV,Ee,Jo,Eb,DW,KX,DL,GY,Jn,CS,JH,EW,Gv,D5,BL,BG,GR,Ec,Jy,Jl]at hs ⊢);rw[List.map_append,Zc6,show Kw c k=j from by unfold Kw;omega];exact hs⟩)
 refine Az 12 1 [0] [[oF],[o0]] [BF ((k:Int)<(c.Ag.xs.length:Int))] [(1,pt z),(BG z),(BL n2),(102,.func (.func 75) #[] #[pt n2])] rfl ⟨bf,Ae⟩ ?_
 refine l_call [] [] 75 #[i6 0,pt n2] (some 103) Ae ?_
 intro w104 hw104
 refine CE (args:=[i6 0,pt n2]) 10 ⟨w,n25,(Jy n2 c aP i cP csG k aC cC z w)⟩ Tryd.func75 rfl (by kernel_rfl) (by kernel_rfl) hw104 ?_
 refine Az 17 0 [] [[o0],[(a1 3),o0],[(a1 3),o0,(ov (i6 (Dl c k))),(a1 3)],[o0,o0]] [Qb n2,Qb n2,Wr ((Dl c k:Int)+0) (Dl c k),Qb n2] [(3,i6 (Dl c k))] rfl ⟨rfl,rfl,BQ,rfl,Ae⟩ ?_
 refine AA [] [] (i6 (Dl c k)) Ae ?_
 intro w105 hw105
 refine⟨_,_,rfl,hw105, ?_⟩
 refine BP 0 3 [] [[(ov (i6 ((Dl c k)+16))),(ov (i6 (((Dl c k)+16) - 1))),(ov (i6 ((((Dl c k)+16) - 1) / 16)))]] [Wr ((Dl c k:Int)+16) ((Dl c k)+16),Wr (((Dl c k)+16:Int) - 1) (((Dl c k)+16) - 1),Wr (Int.tdiv (((Dl c k)+16) - 1) 16) ((((Dl c k)+16) - 1) / 16)] [(1,pt z),(BG z),(BL n2),(106,i6 ((((Dl c k)+16) - 1) / 16))] rfl ⟨BQ,BQ,congrArg (Value.int .i64) (Pn (by omega) (by omega) (by omega)),Ae⟩ ?_
 refine l_call [] [] 57 #[i6 ((((Dl c k)+16) - 1) / 16)] (some 107) Ae ?_
 intro w106 hw106
 refine CE (args:=[i6 ((((Dl c k)+16) - 1) / 16)]) 4 ⟨w,n25,(Jy n2 c aP i cP csG k aC cC z w)⟩ Tryd.func57 rfl (by kernel_rfl) (by kernel_rfl) hw106 ?_
 refine q_c 9 0 [] [[o0,o0],[o0,o0]] [] [(2,.func (.func 75) #[] #[pt n25])] ⟨w,n25+1,[(Ak w),(CV c z),(CW z),(FK n2 c k),(Ff n2 c aP i cP csG aC cC),(Ee c aP i cP z),(DW csG z),(Eb csG aC cC z),(bk n25 #[i6 ((((Dl c k)+16) - 1) / 16)] 3)]⟩ rfl Ae ?_
 refine AA [] [] (.func (.func 75) #[] #[pt n25]) Ae ?_
 intro w107 hw107
 refine⟨_,_,rfl,hw107, ?_⟩
 refine BP 8 0 [] [[o0],[o0,(a1 1),o0,o0]] [Qb z] [(BG z),(BL n2),(Gy n25),(NC c),(Gx c),(111,i6 0)] rfl ⟨rfl,Ae⟩ ?_
 refine RH z 3 1 (fun x:Int=>[i6 x]) ?_
 refine Di (fun m a w'=>∃ (n109:Nat) (p:Nat) (psG:List Aw) (aP2:Option Addr) (cP2:Nat),m=c.Aa.xs.length - p∧n25+1≤n109∧(p≤c.Aa.xs.length)∧(psG.length=c.Aa.xs.length)∧(∀ q,p≤q→q<c.Aa.xs.length→gd psG q=Qn c q)∧(∀ q,q<p→∃ a cp,gd psG q=Hq c q ⟨a,cp,Gs c q (Jq (gd c.Aa.xs q))⟩)∧St 148 [(BG z),(BL n2),(Gy n25),(NC c),(Gx c),(111,Ac p)] [] ⟨w,n109,(PG n2 c csG k psG cP2 aC cC aP2 z n25 p w)⟩ a w') (c.Aa.xs.length - 0) ?_ ?_
 ·intro a w' hs;exact⟨(n25+1),0,(Jc c i),aP,cP,rfl,Nat.le_refl _,Nat.zero_le _,(by rw[X9];omega),(fun q _ hq=>ZbK (show q<i by omega)),fun q hq=>absurd hq (Nat.not_lt_zero q),by(try dsimp only[JA,Ff,Ib,Qm,CW,Ja,Jm,OB,FK,EO,CV,J6,Ee,Jo,P6,Eb,DW,DL,NC,GY,Jn,Gy,CS,JH,EW,Gx,Gv,D5,BL,BG,GR,Ec,PG,Jy,Jl]at hs ⊢);rw[show Et c 0=(((Dl c k)+16) - 1) / 16 from by rw[tAt_zero,show k=c.Ag.xs.length by omega]];exact hs⟩
 rintro m a w' ⟨n109,p,psG,aP2,cP2,rfl,hn108,hkp,hpl,hp1,hp2,hs⟩
 refine(?_:G Tryd.prog 148 [(BG z),(BL n2),(Gy n25),(NC c),(Gx c),(111,Ac p)] [] ⟨w,n109,(PG n2 c csG k psG cP2 aC cC aP2 z n25 p w)⟩ _ _ _) a w' hs
 clear hs a w'
 have htb:=SA hfine p (by omega)
 refine Ce ?_
 by_cases h110:(p:Int)<(c.Aa.xs.length:Int)
 ·refine Az 10 0 [1] [[oT]] [BT ((p:Int)<(c.Aa.xs.length:Int))] [(BG z),(BL n2),(Gy n25),(NC c),(Gx c),(111,Ac p),(112,.bool true)] rfl ⟨bt,Ae⟩ ?_
  obtain⟨b111,o112,ha113,hF115,hc114⟩:=(hc.Aa).1.all (show 0<c.Aa.xs.length by omega)
  replace ha113:c.Aa.a=some ⟨b111,o112,none⟩:=ha113
  refine MQ [(BG z),(BL n2),(Gy n25),(H8 c b111 o112),(Gx c),(111,Ac p),(112,.bool true)] (by(try dsimp only[JA,Ff,Ib,Qm,CW,Ja,Jm,OB,FK,EO,CV,J6,Ee,Jo,P6,Eb,DW,H8,DL,NC,GY,Jn,Gy,CS,JH,EW,Gx,Gv,D5,BL,BG,GR,Ec,PG,Jy,Jl]);simp only[ha113]) ?_
  have hc116:=hc114 p (show p<c.Aa.xs.length by omega)
  have he117:=(hc.Aa).2 p (show p<c.Aa.xs.length by omega)
  obtain⟨y118,hy118⟩:∃ y_,y_=gd c.Aa.xs p:=⟨_,rfl⟩
  rw[←hy118]at he117 hc116
  have htn:=UN y118
  refine q_c 4 0 [] [[o0,(oi p),(ol 0 (Ap.arr y118)),o0,o0,(an 8 10)]] [Ci p,p<c.Aa.xs.length,BN,Fa w b111 (o112+p*8) (Ap.arr y118),Qb n109,Qb n109,Qb n109,Qb n109,Qb n109,Qb n109,Qb n109,Qb n109] [(BG z),(BL n2),(Gy n25),(H8 c b111 o112),(Gx c),(111,Ac p),(15,pt n109),(14,Ac p)] ⟨w,n109+1,[(Ak w),(CV c z),(CW z),(FK n2 c k),(Qm n2 c csG psG cP2 aC cC aP2),(P6 psG cP2 aP2 z),(DW csG z),(Eb csG aC cC z),(OB c n25 p),(J6 psG z p),(KC n109 y118)]⟩ rfl ⟨rfl,(by omega),rfl,Dt hc116,rfl,rfl,rfl,rfl,rfl,rfl,rfl,rfl,Ae⟩ ?_
  refine KI (base:=z) (e:=95) (sz:=5) (cells:=Aw.cells) (a:=aP2) (n:=psG.length) (cap:=cP2) (xs:=psG) 5 (by omega) (fun b119 hg120 hb121 => ?_)
  subst hg120
  refine Eh 7 [0,1,2,3,4,5,6,7,9,10] [(Ak w),(CV c z),(CW z),(FK n2 c k),(LH n2 c csG b119 psG cP2 aC cC),(BJ z 95 5 Aw.cells (.slice (some ⟨b119,0,none⟩) psG.length cP2) psG),(DW csG z),(Eb csG aC cC z),(J6 psG z p),(KC n109 y118)] rfl rfl ?_
  refine Dj [(0,o0),(1,(a1 4)),(2,o0),(3,o0)] [2,5,13,109,110,111,15,14,117,118,119] [Qb (n2+1)] (DF 4 4) [(BG z),(BL n2),(Gy n25),(H8 c b111 o112),(Gx c),(111,Ac p),(15,pt n109),(14,Ac p),(117,.slice (some ⟨b119,0,none⟩) psG.length cP2),(118,Ac p),(119,.func (.func 75) #[] #[pt n25])] ⟨rfl,Ae⟩ ?_
  refine BC 4 ?_
  refine Jj [] [] 75 #[i6 1,pt n25] (some 120) (by as_aux_lemma=>kernel_rfl) rfl rfl Ae ?_
  intro w122 hw122
  refine CE (args:=[i6 1,pt n25]) 10 ⟨w,n109+1,[(Ak w),(CV c z),(CW z),(FK n2 c k),(LH n2 c csG b119 psG cP2 aC cC),(BJ z 95 5 Aw.cells (.slice (some ⟨b119,0,none⟩) psG.length cP2) psG),(DW csG z),(Eb csG aC cC z),(OB c n25 p),(J6 psG z p),(KC n109 y118)]⟩ Tryd.func75 rfl (by kernel_rfl) (by kernel_rfl) hw122 ?_
  refine q_c 17 0 [] [[o0],[(a1 8),o0],[(a1 8),o0,(ov (i6 ((Et c p)+1))),(a1 8)],[o0,o0]] [Qb n25,Qb n25,Wr ((Et c p:Int)+1) ((Et c p)+1),Qb n25] [(3,i6 (Et c p))] ⟨w,n109+1,[(Ak w),(CV c z),(CW z),(FK n2 c k),(LH n2 c csG b119 psG cP2 aC cC),(BJ z 95 5 Aw.cells (.slice (some ⟨b119,0,none⟩) psG.length cP2) psG),(DW csG z),(Eb csG aC cC z),(bk n25 #[i6 ((Et c p)+1)] 3),(J6 psG z p),(KC n109 y118)]⟩ rfl ⟨rfl,rfl,BQ,rfl,Ae⟩ ?_
  refine AA [] [] (i6 (Et c p)) Ae ?_
  intro w123 hw123
  have hs124:=hw123
  refine⟨_,_,rfl,hs124,.inr (fun c hc=>hs124.all c (by first | exact hc | exact Fe (is:=[0,1,2,3,4,5,6,7,9,10]) rfl c hc)), ?_⟩
  refine DU [2,5,13,109,110,111,15,14,117,118,120] [(BG z),(BL n2),(Gy n25),(H8 c b111 o112),(Gx c),(111,Ac p),(15,pt n109),(14,Ac p),(117,.slice (some ⟨b119,0,none⟩) psG.length cP2),(118,Ac p),(120,i6 (Et c p))] ?_
  refine Dj [(5,(oi p)),(6,o0)] [2,5,13,109,110,111,15,14,120,122] [Ci p,p<psG.length,BN] (DF 7 1) [(BG z),(BL n2),(Gy n25),(H8 c b111 o112),(Gx c),(111,Ac p),(15,pt n109),(14,Ac p),(120,i6 (Et c p)),(122,.pointer (some ⟨b119,0+Gi 5 p+3,none⟩))] ⟨rfl,(by omega),rfl,Ae⟩ ?_
  refine BC 7 ?_
  refine Vf 5 p 3 psG (⟨Dp c p,Dp c p+2,Dp c p+2+17,Et c p,(⟨none,0,[]⟩:Sl Int)⟩:Aw) Aw.cells z 95 5 b119 psG.length cP2 (i6 (Et c p)) none [] (by first | omega | (rw[List.length_set];omega)) (by first | (rw[hp1 p (Nat.le_refl _) (by omega)];rfl) | (rw[JY (by omega)];rfl)) (.inl rfl) ?_
  refine DU [2,5,13,109,110,111,15,14] [(BG z),(BL n2),(Gy n25),(H8 c b111 o112),(Gx c),(111,Ac p),(15,pt n109),(14,Ac p)] ?_
  refine Es 8 [0,1,2,3,4,5,6,7,8,9,10] [(Ak w),(CV c z),(CW z),(FK n2 c k),(LH n2 c csG b119 psG cP2 aC cC),(BJ z 95 5 Aw.cells (.slice (some ⟨b119,0,none⟩) psG.length cP2) (psG.set p (⟨Dp c p,Dp c p+2,Dp c p+2+17,Et c p,(⟨none,0,[]⟩:Sl Int)⟩:Aw))),(DW csG z),(Eb csG aC cC z),(bk n25 #[i6 ((Et c p)+1)] 3),(J6 psG z p),(KC n109 y118)] rfl rfl ?_
  refine CU ?_
  refine Jw 3 1 [] [[(an 8 10)]] [Qb n109,Qb n109,Qb n109,Qb n109,Qb n109,Qb n109,Qb n109,Qb n109] [(BG z),(BL n2),(Gy n25),(H8 c b111 o112),(Gx c),(111,Ac p),(14,Ac p),(123,.agg (Ap.arr y118))] rfl ⟨rfl,rfl,rfl,rfl,rfl,rfl,rfl,rfl,Ae⟩ ?_
  refine Bf 61 #[.agg (Ap.arr y118)] (some 124) (i6 ((Jq y118:Nat):Int)) (fun w125 hw125=>ZcC w125 y118 (he117.ext (hw125.ext rfl) (fun _ h=>h)) (ZaB (by rw[hy118];exact hfine.parts p (by omega)))) (fun n126 (hn127:n109+1≤n126) => ?_)
  refine BP 3 0 [] [[o0]] [] [(BG z),(BL n2),(Gy n25),(H8 c b111 o112),(Gx c),(111,Ac p),(14,Ac p),(JV y118),(125,i6 0)] rfl Ae ?_
  refine OZ z 3 1 (fun x:Int=>[i6 x]) ?_
  refine DC [2,5,13,14,109,110,111,124,125] [(BG z),(BL n2),(Gy n25),(14,Ac p),(H8 c b111 o112),(Gx c),(111,Ac p),(JV y118),(125,i6 0)] ?_
  refine Di (fun m a w'=>∃ (n129:Nat) (t:Nat) (aT:Option Addr) (cT:Nat),m=(Jq y118) - t∧n126≤n129∧(t≤(Jq y118))∧St 148 [(BG z),(BL n2),(Gy n25),(14,Ac p),(H8 c b111 o112),(Gx c),(111,Ac p),(JV y118),(125,Ac t)] [] ⟨w,n129,(QU n2 c csG k b119 psG cP2 aC cC z n25 p t n109 y118 aT cT w)⟩ a w') ((Jq y118) - 0) ?_ ?_
  ·intro a w' hs;exact⟨n126,0,none,0,rfl,Nat.le_refl _,Nat.zero_le _,by(try dsimp only[JA,LH,Ff,Ib,Qm,CW,Ja,QZ,Jm,KC,OB,FK,EO,CV,NP,RD,J6,Ee,Jo,P6,Eb,DW,H8,DL,NC,GY,Jn,Gy,CS,JH,EW,Gx,Gv,D5,JV,BL,BG,GR,Ec,QU,PG,Jy,Jl]at hs ⊢);rw[show Et c p+1+((0:Nat):Int)=Et c p+1 from by omega];exact hs⟩
  rintro m a w' ⟨n129,t,aT,cT,rfl,hn128,hkt,hs⟩
  refine(?_:G Tryd.prog 148 [(BG z),(BL n2),(Gy n25),(14,Ac p),(H8 c b111 o112),(Gx c),(111,Ac p),(JV y118),(125,Ac t)] [] ⟨w,n129,(QU n2 c csG k b119 psG cP2 aC cC z n25 p t n109 y118 aT cT w)⟩ _ _ _) a w' hs
  clear hs a w'
  have htl:(Gs c p t).length=t:=WS
  refine Ce ?_
  by_cases h130:(t:Int)<((Jq y118:Nat):Int)
  ·refine Az 9 0 [1] [[oT]] [BT ((t:Int)<((Jq y118:Nat):Int))] [(BG z),(BL n2),(Gy n25),(14,Ac p),(H8 c b111 o112),(Gx c),(111,Ac p),(JV y118),(125,Ac t),(126,.bool true)] rfl ⟨bt,Ae⟩ ?_
   refine Eh 15 [0,1,2,3,4,5,6,7,9,10] [(Ak w),(CV c z),(CW z),(FK n2 c k),(LH n2 c csG b119 psG cP2 aC cC),(NP c b119 psG cP2 z p t aT cT),(DW csG z),(Eb csG aC cC z),(J6 psG z p),(KC n109 y118)] rfl rfl ?_
   refine Dj [(0,o0),(1,(a1 4)),(2,o0),(3,o0),(4,(a1 4)),(5,o0),(6,(oi p)),(7,o0),(8,(oa [.via 5 (.slice aT ((Gs c p t).length) cT)])),(9,o0)] [2,5,13,14,109,110,111,124,125,128,129,135,136] [Qb (n2+1),Qb (n2+1),Ci p,p<psG.length,BN,∀ w',Ch.holds (NP c b119 psG cP2 z p t aT cT) w'→w'.cell? ⟨b119,0+Gi 5 p+4,none⟩=some (.slice aT ((Gs c p t).length) cT)] (DF 10 6) [(BG z),(BL n2),(Gy n25),(14,Ac p),(H8 c b111 o112),(Gx c),(111,Ac p),(JV y118),(125,Ac t),(128,.slice (some ⟨b119,0,none⟩) psG.length cP2),(129,Ac p),(135,.slice aT ((Gs c p t).length) cT),(136,.func (.func 75) #[] #[pt n25])] ⟨rfl,rfl,rfl,(by omega),rfl,Ha (sz:=5) (j:=p) (k:=4) (fun _=>rfl) (by first | omega | (rw[List.length_set];omega)) (by rw[JY (by omega)];rfl),Ae⟩ ?_
   refine BC 10 ?_
   refine Jj [] [] 75 #[i6 1,pt n25] (some 137) (by as_aux_lemma=>kernel_rfl) rfl rfl Ae ?_
   intro w131 hw131
   refine CE (args:=[i6 1,pt n25]) 10 ⟨w,n129,(QU n2 c csG k b119 psG cP2 aC cC z n25 p t n109 y118 aT cT w)⟩ Tryd.func75 rfl (by kernel_rfl) (by kernel_rfl) hw131 ?_
   refine q_c 17 0 [] [[o0],[(a1 8),o0],[(a1 8),o0,(ov (i6 ((Et c p+1+(t:Int))+1))),(a1 8)],[o0,o0]] [Qb n25,Qb n25,Wr ((Et c p+1+(t:Int):Int)+1) ((Et c p+1+(t:Int))+1),Qb n25] [(3,i6 (Et c p+1+(t:Int)))] ⟨w,n129,[(Ak w),(CV c z),(CW z),(FK n2 c k),(LH n2 c csG b119 psG cP2 aC cC),(NP c b119 psG cP2 z p t aT cT),(DW csG z),(Eb csG aC cC z),(SQ c n25 p t),(J6 psG z p),(KC n109 y118),(RD c z p t aT cT)]⟩ rfl ⟨rfl,rfl,BQ,rfl,Ae⟩ ?_
   refine AA [] [] (i6 (Et c p+1+(t:Int))) Ae ?_
   intro w132 hw132
   have hs133:=hw132
   refine⟨_,_,rfl,hs133,.inr (fun c hc=>hs133.all c (by first | exact hc | exact Fe (is:=[0,1,2,3,4,5,6,7,9,10]) rfl c hc)), ?_⟩
   refine DU [2,5,13,14,109,110,111,124,125,128,129,135,137] [(BG z),(BL n2),(Gy n25),(14,Ac p),(H8 c b111 o112),(Gx c),(111,Ac p),(JV y118),(125,Ac t),(128,.slice (some ⟨b119,0,none⟩) psG.length cP2),(129,Ac p),(135,.slice aT ((Gs c p t).length) cT),(137,i6 (Et c p+1+(t:Int)))] ?_
   refine BC 11 ?_
   refine BH o0 [2,5,13,14,109,110,111,124,125,128,129,135,138] [] [(BG z),(BL n2),(Gy n25),(14,Ac p),(H8 c b111 o112),(Gx c),(111,Ac p),(JV y118),(125,Ac t),(128,.slice (some ⟨b119,0,none⟩) psG.length cP2),(129,Ac p),(135,.slice aT ((Gs c p t).length) cT),(138,.slice (some ⟨n129,0,none⟩) 1 1)] ⟨w,n129+1,[(Ak w),(CV c z),(CW z),(FK n2 c k),(LH n2 c csG b119 psG cP2 aC cC),(NP c b119 psG cP2 z p t aT cT),(DW csG z),(Eb csG aC cC z),(SQ c n25 p t),(J6 psG z p),(KC n109 y118),(RD c z p t aT cT),(bk n129 #[i6 (Et c p+1+(t:Int))] 3)]⟩ [0,1,2,3,4,5,6,7,9,10] Ae (.inr rfl) ?_
   refine BC 12 ?_
   refine W9 z 11 12 (Gs c p t) [Et c p+1+(t:Int)] (fun x:Int=>[i6 x]) 3 1 8 (.slice aT ((Gs c p t).length) cT) n129 1 1 #[i6 (Et c p+1+(t:Int))] 3 (0,0) true (some 139) [0,1,2,3,4,5,6,7,9,10] (by simp only[List.length_cons,List.length_nil];omega) (show z≤n129+1 by omega) (.inr ⟨rfl,rfl⟩) (fun ax134 cp135 n136 (hn137:n129+1≤n136) => ?_)
   refine DU [2,5,13,14,109,110,111,124,125,128,129,139] [(BG z),(BL n2),(Gy n25),(14,Ac p),(H8 c b111 o112),(Gx c),(111,Ac p),(JV y118),(125,Ac t),(128,.slice (some ⟨b119,0,none⟩) psG.length cP2),(129,Ac p),(139,.slice ax134 (((Gs c p t)++[Et c p+1+(t:Int)]).length) cp135)] ?_
   refine Dj [(13,(oi p)),(14,o0)] [2,5,13,14,109,110,111,124,125,139,141] [Ci p,p<psG.length,BN] (DF 15 1) [(BG z),(BL n2),(Gy n25),(14,Ac p),(H8 c b111 o112),(Gx c),(111,Ac p),(JV y118),(125,Ac t),(139,.slice ax134 (((Gs c p t)++[Et c p+1+(t:Int)]).length) cp135),(141,.pointer (some ⟨b119,0+Gi 5 p+4,none⟩))] ⟨rfl,(by omega),rfl,Ae⟩ ?_
   refine BC 15 ?_
   refine Vf 5 p 4 (psG.set p (⟨Dp c p,Dp c p+2,Dp c p+2+17,Et c p,(⟨aT,cT,Gs c p t⟩:Sl Int)⟩:Aw)) (⟨Dp c p,Dp c p+2,Dp c p+2+17,Et c p,(⟨ax134,cp135,((Gs c p t)++[Et c p+1+(t:Int)])⟩:Sl Int)⟩:Aw) Aw.cells z 95 5 b119 psG.length cP2 (.slice ax134 (((Gs c p t)++[Et c p+1+(t:Int)]).length) cp135) none [] (by first | omega | (rw[List.length_set];omega)) (by first | (rw[hp1 p (Nat.le_refl _) (by omega)];rfl) | (rw[JY (by omega)];rfl)) (.inl rfl) ?_
   refine DU [2,5,13,14,109,110,111,124,125] [(BG z),(BL n2),(Gy n25),(14,Ac p),(H8 c b111 o112),(Gx c),(111,Ac p),(JV y118),(125,Ac t)] ?_
   refine Es 16 [0,1,2,3,4,5,6,7,8,9,10,11,12] [(Ak w),(CV c z),(CW z),(FK n2 c k),(LH n2 c csG b119 psG cP2 aC cC),(V4 c b119 psG cP2 z p t aT cT ax134 cp135),(DW csG z),(Eb csG aC cC z),(SQ c n25 p t),(J6 psG z p),(KC n109 y118),(BJ z 3 1 (fun x:Int=>[i6 x]) (.slice ax134 (((Gs c p t)++[Et c p+1+(t:Int)]).length) cp135) ((Gs c p t)++[Et c p+1+(t:Int)])),(bk n129 #[i6 (Et c p+1+(t:Int))] 3)] rfl rfl ?_
   refine CU ?_
   refine Jw 4 0 [] [[(ov (i6 ((t+1:Nat):Int))),o0]] [Wr ((t:Int)+1) (((t+1:Nat):Int))] [(BG z),(BL n2),(Gy n25),(14,Ac p),(H8 c b111 o112),(Gx c),(111,Ac p),(JV y118),(125,i6 ((t+1:Nat):Int))] rfl ⟨BQ,Ae⟩ ?_
   refine Cb [0,1,2,3,4,5,6,7,8,9,10,11] [(Ak w),(CV c z),(CW z),(FK n2 c k),(LH n2 c csG b119 psG cP2 aC cC),(V4 c b119 psG cP2 z p t aT cT ax134 cp135),(DW csG z),(Eb csG aC cC z),(SQ c n25 p t),(J6 psG z p),(KC n109 y118),(BJ z 3 1 (fun x:Int=>[i6 x]) (.slice ax134 (((Gs c p t)++[Et c p+1+(t:Int)]).length) cp135) ((Gs c p t)++[Et c p+1+(t:Int)]))] rfl rfl ?_
   refine BK [2,5,13,14,109,110,111,124,125] [(BG z),(BL n2),(Gy n25),(14,Ac p),(H8 c b111 o112),(Gx c),(111,Ac p),(JV y118),(125,i6 ((t+1:Nat):Int))] ?_
   refine BD (fun a w' hs=>⟨(Jq y118) - (t+1),by omega,n136,(t+1),ax134,cp135,rfl,by omega,by omega,by(try dsimp only[JA,LH,Ff,Ib,Qm,CW,Ja,SQ,QZ,Jm,KC,OB,FK,EO,CV,V4,NP,RD,J6,Ee,Jo,P6,Eb,DW,H8,DL,NC,GY,Jn,Gy,CS,JH,EW,Gx,Gv,D5,JV,BL,BG,GR,Ec,QU,PG,Jy,Jl]at hs ⊢);simp only[List.set_set]at hs;rw[show Et c p+1+((t+1:Nat):Int)=Et c p+1+(t:Int)+1 from by omega,YO];exact hs⟩)
  refine Az 13 0 [0] [[oF],[(ov (i6 ((p+1:Nat):Int))),o0]] [BF ((t:Int)<((Jq y118:Nat):Int)),Wr ((p:Int)+1) (((p+1:Nat):Int))] [(BG z),(BL n2),(Gy n25),(H8 c b111 o112),(Gx c),(111,i6 ((p+1:Nat):Int))] rfl ⟨bf,BQ,Ae⟩ ?_
  refine Ua 9 11 [0,1,2,3,4,5,6,7,8,10] [(Ak w),(CV c z),(CW z),(FK n2 c k),(LH n2 c csG b119 psG cP2 aC cC),(NP c b119 psG cP2 z p t aT cT),(DW csG z),(Eb csG aC cC z),(QZ c n25 p t),(KC n109 y118)] ?_
  refine Cb [0,1,2,3,4,5,6,7,8,10] [(Ak w),(CV c z),(CW z),(FK n2 c k),(LH n2 c csG b119 psG cP2 aC cC),(NP c b119 psG cP2 z p t aT cT),(DW csG z),(Eb csG aC cC z),(QZ c n25 p t),(Be z 3 1 (fun x:Int=>[i6 x]) ((psG.take p).map Aw.Tables++[⟨aT,cT,(Gs c p t)⟩]))] rfl rfl ?_
  refine H5 [2,5,13,109,110,111] [(BG z),(BL n2),(Gy n25),(NC c),(Gx c),(111,i6 ((p+1:Nat):Int))] (by(try dsimp only[JA,LH,Ff,Ib,Qm,CW,Ja,SQ,QZ,Jm,KC,OB,FK,EO,CV,V4,NP,RD,J6,Ee,Jo,P6,Eb,DW,H8,DL,NC,GY,Jn,Gy,CS,JH,EW,Gx,Gv,D5,JV,BL,BG,GR,Ec,QU,PG,Jy,Jl]);simp only[ha113];rfl) ?_
  refine BD (fun a w' hs=>⟨c.Aa.xs.length - (p+1),by omega,n129,(p+1),(psG.set p (⟨Dp c p,Dp c p+2,Dp c p+2+17,Et c p,(⟨aT,cT,Gs c p t⟩:Sl Int)⟩:Aw)),(some ⟨b119,0,none⟩),cP2,rfl,by omega,by omega,by rw[List.length_set];exact hpl,fun q h1 h2=>by rw[KA (by omega) (by omega)];exact hp1 q (by omega) h2,fun q hq=>if e:q=p then(by rw[e];exact⟨aT,cT,by rw[JY (by omega),←hy118,show Jq y118=t by omega];rfl⟩)else(by rw[KA (fun e2=>e e2.symm) (by omega)];exact hp2 q (by omega)),by(try dsimp only[JA,LH,Ff,Ib,Qm,CW,Ja,SQ,QZ,Jm,KC,OB,FK,EO,CV,V4,NP,RD,J6,Ee,Jo,P6,Eb,DW,H8,DL,NC,GY,Jn,Gy,CS,JH,EW,Gx,Gv,D5,JV,BL,BG,GR,Ec,QU,PG,Jy,Jl]at hs ⊢);rw[TN (by omega),List.map_append,List.length_set,show Et c (p+1)=Et c p+1+(t:Int)from by rw[WJ,←hy118];omega];exact hs⟩)
 refine Az 12 1 [0] [[oF],[o0]] [BF ((p:Int)<(c.Aa.xs.length:Int))] [(BG z),(BL n2),(144,.func (.func 75) #[] #[pt n25])] rfl ⟨bf,Ae⟩ ?_
 refine l_call [] [] 75 #[i6 0,pt n25] (some 145) Ae ?_
 intro w138 hw138
 refine CE (args:=[i6 0,pt n25]) 10 ⟨w,n109,(PG n2 c csG k psG cP2 aC cC aP2 z n25 p w)⟩ Tryd.func75 rfl (by kernel_rfl) (by kernel_rfl) hw138 ?_
 refine Az 17 0 [] [[o0],[(a1 8),o0],[(a1 8),o0,(ov (i6 (Et c p))),(a1 8)],[o0,o0]] [Qb n25,Qb n25,Wr ((Et c p:Int)+0) (Et c p),Qb n25] [(3,i6 (Et c p))] rfl ⟨rfl,rfl,BQ,rfl,Ae⟩ ?_
 refine AA [] [] (i6 (Et c p)) Ae ?_
 intro w139 hw139
 refine⟨_,_,rfl,hw139, ?_⟩
 refine EY 7 0 [] [[o0,(a1 4)],[(an 4 4),(an 4 2),o0]] [Qb (n2+1),Qb (n2+1),Qb (n2+1),Qb (n2+1),Qb (n2+1),Qb (z+1),Qb (z+1),Qb (z+1),Qb (z+1)] [(BG z),(3,i6 0)] ⟨w,n109,[(Ak w),(CV c z),(bk (z+1) #[i6 (c.Kernel*16),.slice aP2 psG.length cP2,.slice aC csG.length cC,i6 (Et c p)] 79),(FK n2 c k),(bk (n2+1) #[i6 (c.Kernel*16),.slice aP2 psG.length cP2,.slice aC csG.length cC,i6 (Et c p)] 79),(P6 psG cP2 aP2 z),(DW csG z),(Eb csG aC cC z),(OB c n25 p),(J6 psG z p)]⟩ rfl ⟨rfl,rfl,rfl,rfl,rfl,rfl,rfl,rfl,rfl,Ae⟩ ?_
 refine AA [.at 2,.at 2,.at 2,.at 2] [Qb (z+1),Qb (z+1),Qb (z+1),Qb (z+1)] (.tuple #[.agg #[i6 (c.Kernel*16),.slice aP2 psG.length cP2,.slice aC csG.length cC,i6 (Et c p)],i6 0]) ⟨rfl,rfl,rfl,rfl,Ae⟩ ?_
 intro w140 hw140
 have hL:Yj c ⟨c.Kernel*16,⟨aP2,cP2,psG⟩,⟨aC,cC,csG⟩,Et c p⟩:=⟨rfl,by rw[show p=c.Aa.xs.length by omega],hpl,fun q hq=>hp2 q (by omega),by simp only;omega,fun q hq=>hcs q (by omega)⟩
 have hO:Xw z w140 ⟨c.Kernel*16,⟨aP2,cP2,psG⟩,⟨aC,cC,csG⟩,Et c p⟩:=⟨w,by
  have h4:=hw140.pick [5,7,6,9] rfl rfl
  rw[hw140.size]
  unfold layS
  (try dsimp only[JA,LH,Ff,Ib,Qm,CW,Ja,QZ,Jm,KC,OB,FK,EO,CV,NP,RD,J6,Ee,Jo,P6,Eb,DW,H8,DL,NC,GY,Jn,Gy,CS,JH,EW,Gx,Gv,D5,JV,BL,BG,GR,Ec,QU,PG,Jy,Jl]at h4)
  rw[List.take_of_length_le (by omega)]at h4
  exact h4⟩
 exact⟨_,rfl,hL,hz ▸ lay_ok hfine hL hO,hz ▸ hO,AO hw140⟩
def KG(c:Aj):Int:=if EK c=true then Et c c.Aa.xs.length - c.Kernel else 0
def errOf(c:Aj):Int:=if EK c=true then 0 else 150
theorem need_calls(w:World)(c:Aj)(hc:Aj.ok Any w c):Calls Tryd.prog 12 #[.agg (Aj.arr c)] w fun e w'=>e = .returned (.tuple #[.int .i64 (KG c),.int .i64 (errOf c)])∧CP (fun _=>False) w w':=by
 obtain⟨z,hz⟩:∃ z,z=w.heap.size:=⟨_,rfl⟩
 refine CE (args:=[.agg (Aj.arr c)]) 19 ⟨w,z,[(Ak w)]⟩ Tryd.func12 rfl (by kernel_rfl) (by kernel_rfl) (Ep hz) ?_
 refine DC [0] [(0,.agg (Aj.arr c))] ?_
 refine q_c 6 1 [] [[o0,o0,o0],[(an 7 1)]] [Qb z,Qb z,Qb z,Qb z,Qb z,Qb z,Qb z] [(1,pt z),(7,.agg (Aj.arr c))] ⟨w,z+1,[(Ak w),(bk z (Aj.arr c) 26)]⟩ rfl ⟨rfl,rfl,rfl,rfl,rfl,rfl,rfl,Ae⟩ ?_
 refine l_call [] [] 31 #[.agg (Aj.arr c)] (some 8) Ae ?_
 intro w1 hw1
 by_cases hok2:EK c=true
 ·refine(of_yes w1 c (hc.ext (hw1.ext rfl) (fun _ h=>h)) hok2).mono ?_
  rintro e w3 ⟨lw3,rfl,hIw3,hLw3,hOw3,hkw3⟩
  have hfw3:=Wp hok2;have hknw3:=hfw3.kn;have hEw3:=hIw3.fin;have hEbw3:=SA hfw3 _ (Nat.le_refl _);have hpnw3:=hfw3.pn
  rw[hw1.size]at hLw3 hOw3
  have hnw3:z+1≤w3.heap.size:=Fg hw1 hkw3
  refine⟨_,_,rfl,hw1.Qi hkw3, ?_⟩
  refine EY 15 0 [0] [[o0,o0,o0,o0,(an 4 3),o0],[o0,o0],[o0,(a1 3),o0,(a1 1),(ov (i6 (lw3.End - c.Kernel))),o0,o0]] [Qb w3.heap.size,Qb w3.heap.size,Qb w3.heap.size,Qb w3.heap.size,Qb w3.heap.size,Qb z,Wr ((lw3.End:Int) - c.Kernel) (lw3.End - c.Kernel)] [(2,i6 (lw3.End - c.Kernel)),(3,i6 0)] ⟨w,w3.heap.size+1,[(Ak w),(bk z (Aj.arr c) 26),(mid (z+1) w3),(.blk w3.heap.size (.cells (IA.arr lw3) 79 (0,0)) true)]⟩ rfl ⟨rfl,rfl,rfl,rfl,rfl,rfl,BQ,Ae⟩ ?_
  refine AA [] [] (.tuple #[i6 (lw3.End - c.Kernel),i6 0]) Ae ?_
  intro w4 hw4
  refine⟨?_,AO hw4⟩
  unfold KG errOf;rw[if_pos hok2,if_pos hok2];rw[←hEw3]
 refine(of_no w1 c (hc.ext (hw1.ext rfl) (fun _ h=>h)) (Bool.eq_false_iff.2 hok2)).mono ?_
 rintro e w5 ⟨rfl,hkw5⟩
 have hnw5:z+1≤w5.heap.size:=Fg hw1 hkw5
 refine⟨_,_,rfl,hw1.keeps hkw5, ?_⟩
 refine EY 13 0 [1] [[o0,o0,o0,o0,(an 4 2),o0],[o0,o0],[o0,o0,o0]] [Qb w5.heap.size,Qb w5.heap.size,Qb w5.heap.size,Qb w5.heap.size] [(2,i6 0),(3,i6 150)] ⟨w,w5.heap.size+1,[(Ak w),(bk z (Aj.arr c) 26),(.blk w5.heap.size (.cells #[i6 0,.slice none 0 0,.slice none 0 0,i6 0] 79 (0,0)) true)]⟩ rfl ⟨rfl,rfl,rfl,rfl,Ae⟩ ?_
 refine AA [] [] (.tuple #[i6 0,i6 150]) Ae ?_
 intro w6 hw6
 refine⟨?_,AO hw6⟩
 unfold KG errOf;rw[if_neg hok2,if_neg hok2]
end Go.Proofs.YtnjhekfgmbpmlaaDoor.Ly
namespace Go.Proofs.YtnjhekfgmbpmlaaDoor.Ad
open Go Go.Proofs.YtnjhekfgmbpmlaaDoor.Eng Go.Proofs.YtnjhekfgmbpmlaaDoor.Mem Go.Proofs.YtnjhekfgmbpmlaaDoor.Ly
set_option linter.unusedSimpArgs false
set_option linter.unusedVariables false
set_option maxRecDepth 100000
def Vp(c:Aj)(q n:Nat):Bool:=meet (EC c q n).Frame (EC c q n).AV c.Kernel c.Room
def SC(c:Aj)(q:Nat):Bool:=(List.range (EQ c q).Af.xs.length).any (Vp c q)
def FM(c:Aj):Bool:=win c.Kernel 0 (c.Frames - 1)&&win c.Room 1 (c.Frames - c.Kernel) && !(List.range c.Aa.xs.length).any (SC c)&&(decide (errOf c=0)&&decide (KG c≤c.Room))
section
variable (n12:Nat)(y21:Ap)(z:Nat)(c:Aj)(b14 o15:Nat)(b25 o26:Nat)
abbrev TL:=bk n12 (Ap.arr y21) 41
abbrev O7:=bk z (Aj.arr c) 26
abbrev Nq:DJ:=(28,.slice (some ⟨b14,o15,none⟩) c.Aa.xs.length c.Aa.cap)
abbrev U6:DJ:=(35,.slice (some ⟨b25,o26,none⟩) y21.Af.xs.length y21.Af.cap)
abbrev RU:DJ:=(28,.slice c.Aa.a c.Aa.xs.length c.Aa.cap)
abbrev Tz:DJ:=(35,.slice y21.Af.a y21.Af.xs.length y21.Af.cap)
abbrev KH:=(29,Ac c.Aa.xs.length)
abbrev Po:=(36,Ac y21.Af.xs.length)
end
theorem Zcb(w:World)(hL:JM w)(c:Aj)(hc:Aj.ok Any w c)(hFr:1≤c.Frames∧c.Frames≤1024)(hpf:∀ q,q<c.Aa.xs.length→CX c q=Bg):Calls Tryd.prog 54 #[.agg (Aj.arr c)] w fun e w'=>e = .returned (.bool (FM c))∧CP (fun _=>False) w w':=by
 obtain⟨z,hz⟩:∃ z,z=w.heap.size:=⟨_,rfl⟩
 refine CE (args:=[.agg (Aj.arr c)]) 65 ⟨w,z,[(Ak w)]⟩ Tryd.func54 rfl (by kernel_rfl) (by kernel_rfl) (Ep hz) ?_
 have hpl:=hc.Aa.1.len;have hkk:(-9223372036854775808:Int)≤c.Kernel∧c.Kernel≤9223372036854775807:=hc.Kernel;have hrr:(-9223372036854775808:Int)≤c.Room∧c.Room≤9223372036854775807:=hc.Room
 refine DC [0] [(0,.agg (Aj.arr c))] ?_
 refine q_c 7 5 [] [[o0,o0],[o0,(a1 1),o0,(a1 1),(ov (i6 (c.Frames - 1)))]] [Qb z,Qb z,Wr ((c.Frames:Int) - 1) (c.Frames - 1)] [(1,pt z),(10,i6 c.Kernel),(13,i6 (c.Frames - 1))] ⟨w,z+1,[(Ak w),(O7 z c)]⟩ rfl ⟨rfl,rfl,BQ,Ae⟩ ?_
 refine Bf 42 #[i6 c.Kernel,i6 0,i6 (c.Frames - 1)] (some 14) (.bool (win c.Kernel 0 (c.Frames - 1))) (fun w1 hw1=>Cj w1 c.Kernel 0 (c.Frames - 1)) (fun n2 (hn3:z+1≤n2) => ?_)
 refine Dc [1,14] [(1,pt z),(14,.bool (win c.Kernel 0 (c.Frames - 1)))] ?_
 by_cases h4:(win c.Kernel 0 (c.Frames - 1))=true
 ·have hd5:=EE h4
  refine BP 0 9 [] [[(ov (.bool false)),o0,o0,(a1 1),o0,(a1 1),o0,(a1 1),(ov (i6 (c.Frames - c.Kernel)))]] [Value.bool (!(win c.Kernel 0 (c.Frames - 1)))=Value.bool false,Qb z,Qb z,Qb z,Wr ((c.Frames:Int) - c.Kernel) (c.Frames - c.Kernel)] [(1,pt z),(16,.bool false),(18,i6 c.Room),(23,i6 (c.Frames - c.Kernel))] rfl ⟨by simp[h4],rfl,rfl,rfl,BQ,Ae⟩ ?_
  refine Bf 42 #[i6 c.Room,i6 1,i6 (c.Frames - c.Kernel)] (some 24) (.bool (win c.Room 1 (c.Frames - c.Kernel))) (fun w6 hw6=>Cj w6 c.Room 1 (c.Frames - c.Kernel)) (fun n7 (hn8:n2≤n7) => ?_)
  refine Dc [1,16,24] [(1,pt z),(16,.bool false),(24,.bool (win c.Room 1 (c.Frames - c.Kernel)))] ?_
  by_cases h9:(win c.Room 1 (c.Frames - c.Kernel))=true
  ·have hd10:=EE h9
   refine BP 11 0 [0] [[(ov (.bool false)),o0],[o0,(a1 1),o0,o0]] [Value.bool (!(win c.Room 1 (c.Frames - c.Kernel)))=Value.bool false,Qb z] [(1,pt z),(RU c),(KH c),(30,i6 0)] rfl ⟨by simp[h9],rfl,Ae⟩ ?_
   refine Di (fun m a w'=>∃ (n12:Nat) (q:Nat),m=c.Aa.xs.length - q∧n7≤n12∧(q≤c.Aa.xs.length)∧(∀ a,a<q→SC c a=false)∧St 65 [(1,pt z),(RU c),(KH c),(30,Ac q)] [] ⟨w,n12,[(Ak w),(O7 z c)]⟩ a w') (c.Aa.xs.length - 0) ?_ ?_
   ·intro a w' hs;exact⟨n7,0,rfl,Nat.le_refl _,Nat.zero_le _,fun i hi=>absurd hi (Nat.not_lt_zero i),hs⟩
   rintro m a w' ⟨n12,q,rfl,hn11,hkq,hg,hs⟩
   refine(?_:G Tryd.prog 65 [(1,pt z),(RU c),(KH c),(30,Ac q)] [] ⟨w,n12,[(Ak w),(O7 z c)]⟩ _ _ _) a w' hs
   clear hs a w'
   refine Ce ?_
   by_cases h13:(q:Int)<(c.Aa.xs.length:Int)
   ·refine Az 10 0 [1] [[oT]] [BT ((q:Int)<(c.Aa.xs.length:Int))] [(1,pt z),(RU c),(KH c),(30,Ac q),(31,.bool true)] rfl ⟨bt,Ae⟩ ?_
    obtain⟨b14,o15,ha16,hF18,hc17⟩:=(hc.Aa).1.all (show 0<c.Aa.xs.length by omega)
    replace ha16:c.Aa.a=some ⟨b14,o15,none⟩:=ha16
    refine MQ [(1,pt z),(Nq c b14 o15),(KH c),(30,Ac q),(31,.bool true)] (by(try dsimp only[O7,Nq,RU,KH]);simp only[ha16]) ?_
    have hc19:=hc17 q (show q<c.Aa.xs.length by omega)
    have he20:=(hc.Aa).2 q (show q<c.Aa.xs.length by omega)
    obtain⟨y21,hy21⟩:∃ y_,y_=gd c.Aa.xs q:=⟨_,rfl⟩
    rw[←hy21]at he20 hc19
    have hyly21:=he20.Af.1.len
    refine q_c 8 0 [] [[(oi q),(ol 0 (Ap.arr y21)),o0,(an 8 2)],[o0,(a1 2),o0,o0]] [Ci q,q<c.Aa.xs.length,BN,Fa w b14 (o15+q*8) (Ap.arr y21),Qb n12,Qb n12,Qb n12,Qb n12,Qb n12,Qb n12,Qb n12,Qb n12,Qb n12] [(1,pt z),(Nq c b14 o15),(KH c),(30,Ac q),(Tz y21),(Po y21),(37,i6 0)] ⟨w,n12+1,[(Ak w),(O7 z c),(TL n12 y21)]⟩ rfl ⟨rfl,(by omega),rfl,Dt hc19,rfl,rfl,rfl,rfl,rfl,rfl,rfl,rfl,rfl,Ae⟩ ?_
    refine Di (fun m a w'=>∃ (n23:Nat) (n:Nat),m=y21.Af.xs.length - n∧n12+1≤n23∧(n≤y21.Af.xs.length)∧(∀ a,a<n→Vp c q a=false)∧St 65 [(1,pt z),(Nq c b14 o15),(KH c),(30,Ac q),(Tz y21),(Po y21),(37,Ac n)] [] ⟨w,n23,[(Ak w),(O7 z c),(TL n12 y21)]⟩ a w') (y21.Af.xs.length - 0) ?_ ?_
    ·intro a w' hs;exact⟨(n12+1),0,rfl,Nat.le_refl _,Nat.zero_le _,fun i hi=>absurd hi (Nat.not_lt_zero i),hs⟩
    rintro m a w' ⟨n23,n,rfl,hn22,hkn,hh,hs⟩
    refine(?_:G Tryd.prog 65 [(1,pt z),(Nq c b14 o15),(KH c),(30,Ac q),(Tz y21),(Po y21),(37,Ac n)] [] ⟨w,n23,[(Ak w),(O7 z c),(TL n12 y21)]⟩ _ _ _) a w' hs
    clear hs a w'
    refine Ce ?_
    by_cases h24:(n:Int)<(y21.Af.xs.length:Int)
    ·refine Az 10 0 [1] [[oT]] [BT ((n:Int)<(y21.Af.xs.length:Int))] [(1,pt z),(Nq c b14 o15),(KH c),(30,Ac q),(Tz y21),(Po y21),(37,Ac n),(38,.bool true)] rfl ⟨bt,Ae⟩ ?_
     obtain⟨b25,o26,ha27,hF29,hc28⟩:=(he20.Af).1.all (show 0<y21.Af.xs.length by omega)
     replace ha27:y21.Af.a=some ⟨b25,o26,none⟩:=ha27
     refine MQ [(1,pt z),(Nq c b14 o15),(KH c),(30,Ac q),(U6 y21 b25 o26),(Po y21),(37,Ac n),(38,.bool true)] (by(try dsimp only[TL,O7,Nq,U6,RU,Tz,KH,Po]);simp only[ha27]) ?_
     have hc30:=hc28 n (show n<y21.Af.xs.length by omega)
     have he31:=(he20.Af).2 n (show n<y21.Af.xs.length by omega)
     obtain⟨y32,hy32⟩:∃ y_,y_=gd y21.Af.xs n:=⟨_,rfl⟩
     rw[←hy32]at he31 hc30
     refine q_c 5 8 [] [[(oi n),(ol 0 (A8.arr y32)),o0,(an 4 3)],[o0,(a1 3),o0,(a1 3),o0,(a1 1),o0,(a1 1)]] [Ci n,n<y21.Af.xs.length,BN,Fa w b25 (o26+n*4) (A8.arr y32),Qb n23,Qb n23,Qb n23,Qb n23,Qb n23,Qb n23,Qb z,Qb z] [(1,pt z),(Nq c b14 o15),(KH c),(30,Ac q),(U6 y21 b25 o26),(Po y21),(37,Ac n),(42,i6 y32.Frame),(44,i6 y32.AV),(46,i6 c.Kernel),(48,i6 c.Room)] ⟨w,n23+1,[(Ak w),(O7 z c),(TL n12 y21),(bk n23 (A8.arr y32) 49)]⟩ rfl ⟨rfl,(by omega),rfl,Dt hc30,rfl,rfl,rfl,rfl,rfl,rfl,rfl,rfl,Ae⟩ ?_
     have hm34:=U7 hFr.2 (TZ (hpf q (by omega))) n (by dsimp only[EQ];rw[←hy21];omega);dsimp only[EC]at hm34;rw[←hy21,←hy32]at hm34;unfold Bd at hm34
     refine Bf 73 #[i6 y32.Frame,i6 y32.AV,i6 c.Kernel,i6 c.Room] (some 49) (.bool (meet y32.Frame y32.AV c.Kernel c.Room)) (fun w33 hw33=>TQ w33 y32.Frame y32.AV c.Kernel c.Room (by omega) (by omega) (by omega) (by omega)) (fun n35 (hn36:n23+1≤n35) => ?_)
     refine Dc [1,28,29,30,35,36,37,49] [(1,pt z),(Nq c b14 o15),(KH c),(30,Ac q),(U6 y21 b25 o26),(Po y21),(37,Ac n),(49,.bool (meet y32.Frame y32.AV c.Kernel c.Room))] ?_
     refine TU (by kernel_rfl) ?_
     refine IM ?_
     by_cases h37:(meet y32.Frame y32.AV c.Kernel c.Room)=true
     ·refine Az 6 0 [3] [[o0]] [Value.bool (meet y32.Frame y32.AV c.Kernel c.Room)=Value.bool true] [(2,.bool false)] rfl ⟨(congrArg Value.bool h37),Ae⟩ ?_
      refine AA [] [] (.bool false) Ae ?_
      intro w38 hw38
      refine⟨congrArg (fun b=>Ending.returned (Value.bool b)) (?_:false=FM c),AO hw38⟩
      have en:EC c q n=y32:=(by dsimp only[EC];rw[←hy21,←hy32])
      have eo:(List.range c.Aa.xs.length).any (SC c)=true:=range_any (k:=q) (by omega) (range_any (k:=n) (by dsimp only[EQ];rw[←hy21];omega) (by unfold Vp;rw[en];exact h37))
      unfold FM;simp[eo]
     refine Az 6 0 [2] [[(ov (i6 ((n+1:Nat):Int))),o0]] [Value.bool (meet y32.Frame y32.AV c.Kernel c.Room)=Value.bool false,Wr ((n:Int)+1) (((n+1:Nat):Int))] [(1,pt z),(Nq c b14 o15),(KH c),(30,Ac q),(U6 y21 b25 o26),(Po y21),(37,i6 ((n+1:Nat):Int))] rfl ⟨(congrArg Value.bool (Bool.eq_false_iff.2 h37)),BQ,Ae⟩ ?_
     refine Cb [0,1,2] [(Ak w),(O7 z c),(TL n12 y21)] rfl rfl ?_
     refine H5 [1,28,29,30,35,36,37] [(1,pt z),(Nq c b14 o15),(KH c),(30,Ac q),(Tz y21),(Po y21),(37,i6 ((n+1:Nat):Int))] (by(try dsimp only[TL,O7,Nq,U6,RU,Tz,KH,Po]);simp only[ha27];rfl) ?_
     refine BD (fun a w' hs=>⟨y21.Af.xs.length - (n+1),by omega,n35,(n+1),rfl,by omega,by omega,Fh hh (by have en:EC c q n=y32:=(by dsimp only[EC];rw[←hy21,←hy32]);unfold Vp;rw[en];simpa using h37),hs⟩)
    refine Az 13 0 [0] [[oF],[(ov (i6 ((q+1:Nat):Int))),o0]] [BF ((n:Int)<(y21.Af.xs.length:Int)),Wr ((q:Int)+1) (((q+1:Nat):Int))] [(1,pt z),(Nq c b14 o15),(KH c),(30,i6 ((q+1:Nat):Int))] rfl ⟨bf,BQ,Ae⟩ ?_
    refine Cb [0,1] [(Ak w),(O7 z c)] rfl rfl ?_
    refine H5 [1,28,29,30] [(1,pt z),(RU c),(KH c),(30,i6 ((q+1:Nat):Int))] (by(try dsimp only[TL,O7,Nq,U6,RU,Tz,KH,Po]);simp only[ha16];rfl) ?_
    refine BD (fun a w' hs=>⟨c.Aa.xs.length - (q+1),by omega,n23,(q+1),rfl,by omega,by omega,Fh hg (GL (fun i hi=>hh i (by dsimp only[EQ]at hi;rw[←hy21]at hi;omega))),hs⟩)
   refine Az 12 1 [0] [[oF],[(an 7 1)]] [BF ((q:Int)<(c.Aa.xs.length:Int)),Qb z,Qb z,Qb z,Qb z,Qb z,Qb z,Qb z] [(1,pt z),(53,.agg (Aj.arr c))] rfl ⟨bf,rfl,rfl,rfl,rfl,rfl,rfl,rfl,Ae⟩ ?_
   refine Bf 12 #[.agg (Aj.arr c)] (some 54) (.tuple #[i6 (KG c),i6 (errOf c)]) (fun w39 hw39=>need_calls w39 c (hc.ext (hw39.ext rfl) (fun _ h=>h))) (fun n40 (hn41:n12≤n40) => ?_)
   refine BP 3 0 [] [[o0,o0,o0,o0,o0]] [] [(1,pt z),(7,i6 (KG c)),(8,i6 (errOf c))] rfl Ae ?_
   by_cases h42:(errOf c:Int)=0
   ·by_cases h43:(c.Room:Int)<KG c
    ·refine Az 4 0 [] [[o0,oT,o0,o0,o0,(a1 1),oF,o0,o0]] [ET (errOf c) 0,Qb z,BF ((KG c:Int)≤c.Room)] [(2,.bool false)] rfl ⟨et,rfl,bf,Ae⟩ ?_
     refine AA [] [] (.bool false) Ae ?_
     intro w44 hw44
     refine⟨congrArg (fun b=>Ending.returned (Value.bool b)) (?_:false=FM c),AO hw44⟩
     have eo:(List.range c.Aa.xs.length).any (SC c)=false:=GL (fun i hi=>hg i (by omega))
     unfold FM;rw[eo];simp[h4,h9];first | done | omega
    refine Az 4 0 [] [[o0,oT,o0,o0,o0,(a1 1),oT,o0,o0]] [ET (errOf c) 0,Qb z,BT ((KG c:Int)≤c.Room)] [(2,.bool true)] rfl ⟨et,rfl,bt,Ae⟩ ?_
    refine AA [] [] (.bool true) Ae ?_
    intro w45 hw45
    refine⟨congrArg (fun b=>Ending.returned (Value.bool b)) (?_:true=FM c),AO hw45⟩
    have eo:(List.range c.Aa.xs.length).any (SC c)=false:=GL (fun i hi=>hg i (by omega))
    unfold FM;rw[eo];simp[h4,h9];first | done | omega
   refine Az 4 0 [] [[o0,oF,o0,o0,o0]] [EF (errOf c) 0] [(2,.bool false)] rfl ⟨ef,Ae⟩ ?_
   refine AA [] [] (.bool false) Ae ?_
   intro w46 hw46
   refine⟨congrArg (fun b=>Ending.returned (Value.bool b)) (?_:false=FM c),AO hw46⟩
   have eo:(List.range c.Aa.xs.length).any (SC c)=false:=GL (fun i hi=>hg i (by omega))
   unfold FM;rw[eo];simp[h4,h9];first | done | omega
  have hd47:=FQ h9
  refine BP 8 0 [1] [[(ov (.bool true)),o0],[o0]] [Value.bool (!(win c.Room 1 (c.Frames - c.Kernel)))=Value.bool true] [(2,.bool false)] rfl ⟨by simp[h9],Ae⟩ ?_
  refine AA [] [] (.bool false) Ae ?_
  intro w48 hw48
  refine⟨congrArg (fun b=>Ending.returned (Value.bool b)) (?_:false=FM c),AO hw48⟩
  unfold FM;simp[h4,h9]
 have hd49:=FQ h4
 refine BP 8 0 [1] [[(ov (.bool true)),o0,o0],[o0]] [Value.bool (!(win c.Kernel 0 (c.Frames - 1)))=Value.bool true] [(2,.bool false)] rfl ⟨by simp[h4],Ae⟩ ?_
 refine AA [] [] (.bool false) Ae ?_
 intro w50 hw50
 refine⟨congrArg (fun b=>Ending.returned (Value.bool b)) (?_:false=FM c),AO hw50⟩
 unfold FM;simp[h4]
def G8(c:Aj):Ar:=Ah (win c.Frames 1 1024) 400 ⟨-1, -1⟩
def whole2(c:Aj):Ar:=Ah (win c.CJ 1 16384) 401 ⟨-1, -1⟩
def Gm(c:Aj):Ar:=Ah (win (c.Aq.xs.length:Int) 1 4) 402 ⟨-1, -1⟩
def Gn(c:Aj):Ar:=Ah (win (c.Aa.xs.length:Int) 1 8) 403 ⟨-1, -1⟩
def FV(c:Aj):Ar:=Ah (decide ((c.Ag.xs.length:Int)≤16)) 404 ⟨-1, -1⟩
def IQ(c:Aj):Ar:=Ah (FM c) 423 ⟨-1, -1⟩
theorem q1_calls(w:World)(hL:JM w)(c:Aj)(hc:Aj.ok Any w c)(bc:Nat)(hbc:∀ (k:Nat) (v:Value),(Aj.cells c)[k]? = some v→w.cell? ⟨bc,0+k,none⟩=some v):Calls Tryd.prog 40 #[.pointer (some ⟨bc,0,none⟩)] w fun e w'=>e = .returned (.agg (Ar.arr (G8 c)))∧CP (fun _=>False) w w':=by
 obtain⟨z,hz⟩:∃ z,z=w.heap.size:=⟨_,rfl⟩
 refine CE (args:=[pt bc]) 7 ⟨w,z,[(Ak w)]⟩ Tryd.func40 rfl (by kernel_rfl) (by kernel_rfl) (Ep hz) ?_
 have hpl:=hc.Aa.1.len;have hpc:=hc.Aq.1.len;have hpch:=hc.Ag.1.len
 refine DC [0] [(0,pt bc)] ?_
 refine q_c 5 0 [] [[o0]] [] [(0,pt bc),(1,pt z)] ⟨w,z+1,[(Ak w),(bk z #[i6 0,i6 0,i6 0] 73)]⟩ rfl Ae ?_
 refine Eh 5 [0,1] [(Ak w),(bk z #[i6 0,i6 0,i6 0] 73)] rfl rfl ?_
 refine JB [.tk 0 o0,.tk 1 (oa [.via 0 (i6 c.Frames)]),.tk 3 (oa [.via 0 (i6 (-1)),.via 0 (i6 (-1))]),.cl 2 (.bool (win c.Frames 1 1024)),.cl 4 (.agg (Ar.arr (Ah (win c.Frames 1 1024) 400 ⟨-1, -1⟩)))] [1,6] [(42,#[i6 c.Frames,i6 1,i6 1024],.bool (win c.Frames 1 1024)),(41,#[.bool (win c.Frames 1 1024),i6 400,.agg #[i6 (-1),i6 (-1)]],.agg (Ar.arr (Ah (win c.Frames 1 1024) 400 ⟨-1, -1⟩)))] (DF 5 1) [Old w bc 0 (i6 c.Frames),Old w 1 0 (i6 (-1)),Old w 1 1 (i6 (-1))] [(1,pt z),(6,.agg (Ar.arr (Ah (win c.Frames 1 1024) 400 ⟨-1, -1⟩)))] [0,1] ⟨A7 (hbc 0 _ rfl),A7 (hL.1 0 _ rfl),A7 (hL.1 1 _ rfl),Ae⟩ ⟨fun w1 hw1=>Cj w1 c.Frames 1 1024,fun w2 hw2=>Bz w2 (hL.ext (hw2.ext rfl)) (win c.Frames 1 1024) 400 (-1) (-1),Ae⟩ (fun n3 hn4 => ?_)
 replace hn4:z+1≤n3:=hn4
 refine BC 5 ?_
 refine BH (an 3 1) [1] [Qb z,Qb z,Qb z] [(1,pt z)] ⟨w,n3,[(Ak w),(.blk z (.cells (Ar.arr (Ah (win c.Frames 1 1024) 400 ⟨-1, -1⟩)) 73 (0,0)) true)]⟩ [] ⟨rfl,rfl,rfl,Ae⟩ (.inl rfl) ?_
 refine Es 6 [0,1] [(Ak w),(.blk z (.cells (Ar.arr (Ah (win c.Frames 1 1024) 400 ⟨-1, -1⟩)) 73 (0,0)) true)] rfl rfl ?_
 refine CU ?_
 refine BK [1] [(1,pt z)] ?_
 refine IM <| KR <| AA [.at 1,.at 1,.at 1] [Qb z,Qb z,Qb z] (.agg #[i6 ((Ah (win c.Frames 1 1024) 400 ⟨-1, -1⟩).e),i6 ((Ah (win c.Frames 1 1024) 400 ⟨-1, -1⟩).Ai.First),i6 ((Ah (win c.Frames 1 1024) 400 ⟨-1, -1⟩).Ai.Second)]) ⟨rfl,rfl,rfl,Ae⟩ ?_
 intro w5 hw5
 exact⟨congrArg (fun t=>Ending.returned (Value.agg (Ar.arr t))) (show(Ah (win c.Frames 1 1024) 400 ⟨-1, -1⟩)=G8 c from by unfold G8;first | rfl | rw[decide_eq_false (by omega)] | rw[decide_eq_true (by omega)]),AO hw5⟩
theorem q2_calls(w:World)(hL:JM w)(c:Aj)(hc:Aj.ok Any w c)(bc:Nat)(hbc:∀ (k:Nat) (v:Value),(Aj.cells c)[k]? = some v→w.cell? ⟨bc,0+k,none⟩=some v):Calls Tryd.prog 43 #[.pointer (some ⟨bc,0,none⟩)] w fun e w'=>e = .returned (.agg (Ar.arr (whole2 c)))∧CP (fun _=>False) w w':=by
 obtain⟨z,hz⟩:∃ z,z=w.heap.size:=⟨_,rfl⟩
 refine CE (args:=[pt bc]) 7 ⟨w,z,[(Ak w)]⟩ Tryd.func43 rfl (by kernel_rfl) (by kernel_rfl) (Ep hz) ?_
 have hpl:=hc.Aa.1.len;have hpc:=hc.Aq.1.len;have hpch:=hc.Ag.1.len
 refine DC [0] [(0,pt bc)] ?_
 refine q_c 5 0 [] [[o0]] [] [(0,pt bc),(1,pt z)] ⟨w,z+1,[(Ak w),(bk z #[i6 0,i6 0,i6 0] 73)]⟩ rfl Ae ?_
 refine Eh 5 [0,1] [(Ak w),(bk z #[i6 0,i6 0,i6 0] 73)] rfl rfl ?_
 refine JB [.tk 0 o0,.tk 1 (oa [.via 0 (i6 c.CJ)]),.tk 3 (oa [.via 0 (i6 (-1)),.via 0 (i6 (-1))]),.cl 2 (.bool (win c.CJ 1 16384)),.cl 4 (.agg (Ar.arr (Ah (win c.CJ 1 16384) 401 ⟨-1, -1⟩)))] [1,6] [(42,#[i6 c.CJ,i6 1,i6 16384],.bool (win c.CJ 1 16384)),(41,#[.bool (win c.CJ 1 16384),i6 401,.agg #[i6 (-1),i6 (-1)]],.agg (Ar.arr (Ah (win c.CJ 1 16384) 401 ⟨-1, -1⟩)))] (DF 5 1) [Old w bc 1 (i6 c.CJ),Old w 1 0 (i6 (-1)),Old w 1 1 (i6 (-1))] [(1,pt z),(6,.agg (Ar.arr (Ah (win c.CJ 1 16384) 401 ⟨-1, -1⟩)))] [0,1] ⟨A7 (hbc 1 _ rfl),A7 (hL.1 0 _ rfl),A7 (hL.1 1 _ rfl),Ae⟩ ⟨fun w1 hw1=>Cj w1 c.CJ 1 16384,fun w2 hw2=>Bz w2 (hL.ext (hw2.ext rfl)) (win c.CJ 1 16384) 401 (-1) (-1),Ae⟩ (fun n3 hn4 => ?_)
 replace hn4:z+1≤n3:=hn4
 refine BC 5 ?_
 refine BH (an 3 1) [1] [Qb z,Qb z,Qb z] [(1,pt z)] ⟨w,n3,[(Ak w),(.blk z (.cells (Ar.arr (Ah (win c.CJ 1 16384) 401 ⟨-1, -1⟩)) 73 (0,0)) true)]⟩ [] ⟨rfl,rfl,rfl,Ae⟩ (.inl rfl) ?_
 refine Es 6 [0,1] [(Ak w),(.blk z (.cells (Ar.arr (Ah (win c.CJ 1 16384) 401 ⟨-1, -1⟩)) 73 (0,0)) true)] rfl rfl ?_
 refine CU ?_
 refine BK [1] [(1,pt z)] ?_
 refine IM <| KR <| AA [.at 1,.at 1,.at 1] [Qb z,Qb z,Qb z] (.agg #[i6 ((Ah (win c.CJ 1 16384) 401 ⟨-1, -1⟩).e),i6 ((Ah (win c.CJ 1 16384) 401 ⟨-1, -1⟩).Ai.First),i6 ((Ah (win c.CJ 1 16384) 401 ⟨-1, -1⟩).Ai.Second)]) ⟨rfl,rfl,rfl,Ae⟩ ?_
 intro w5 hw5
 exact⟨congrArg (fun t=>Ending.returned (Value.agg (Ar.arr t))) (show(Ah (win c.CJ 1 16384) 401 ⟨-1, -1⟩)=whole2 c from by unfold whole2;first | rfl | rw[decide_eq_false (by omega)] | rw[decide_eq_true (by omega)]),AO hw5⟩
section
variable (z:Nat)(c:Aj)
abbrev qis8_0:Ch:= .blk z (.cells (Ar.arr (Ah (win (c.Aq.xs.length:Int) 1 4) 402 ⟨-1, -1⟩)) 73 (0,0)) true
end
theorem q3_calls(w:World)(hL:JM w)(c:Aj)(hc:Aj.ok Any w c)(bc:Nat)(hbc:∀ (k:Nat) (v:Value),(Aj.cells c)[k]? = some v→w.cell? ⟨bc,0+k,none⟩=some v):Calls Tryd.prog 44 #[.pointer (some ⟨bc,0,none⟩)] w fun e w'=>e = .returned (.agg (Ar.arr (Gm c)))∧CP (fun _=>False) w w':=by
 obtain⟨z,hz⟩:∃ z,z=w.heap.size:=⟨_,rfl⟩
 refine CE (args:=[pt bc]) 8 ⟨w,z,[(Ak w)]⟩ Tryd.func44 rfl (by kernel_rfl) (by kernel_rfl) (Ep hz) ?_
 have hpl:=hc.Aa.1.len;have hpc:=hc.Aq.1.len;have hpch:=hc.Ag.1.len
 refine DC [0] [(0,pt bc)] ?_
 refine q_c 5 0 [] [[o0]] [] [(0,pt bc),(1,pt z)] ⟨w,z+1,[(Ak w),(bk z #[i6 0,i6 0,i6 0] 73)]⟩ rfl Ae ?_
 refine Eh 6 [0,1] [(Ak w),(bk z #[i6 0,i6 0,i6 0] 73)] rfl rfl ?_
 refine JB [.tk 0 o0,.tk 1 (oa [.via 0 (.slice c.Aq.a c.Aq.xs.length c.Aq.cap)]),.tk 2 o0,.tk 4 (oa [.via 0 (i6 (-1)),.via 0 (i6 (-1))]),.cl 3 (.bool (win (c.Aq.xs.length:Int) 1 4)),.cl 5 (.agg (Ar.arr (Ah (win (c.Aq.xs.length:Int) 1 4) 402 ⟨-1, -1⟩)))] [1,7] [(42,#[(Ac c.Aq.xs.length),i6 1,i6 4],.bool (win (c.Aq.xs.length:Int) 1 4)),(41,#[.bool (win (c.Aq.xs.length:Int) 1 4),i6 402,.agg #[i6 (-1),i6 (-1)]],.agg (Ar.arr (Ah (win (c.Aq.xs.length:Int) 1 4) 402 ⟨-1, -1⟩)))] (DF 6 1) [Old w bc 4 (.slice c.Aq.a c.Aq.xs.length c.Aq.cap),Old w 1 0 (i6 (-1)),Old w 1 1 (i6 (-1))] [(1,pt z),(7,.agg (Ar.arr (Ah (win (c.Aq.xs.length:Int) 1 4) 402 ⟨-1, -1⟩)))] [0,1] ⟨A7 (hbc 4 _ rfl),A7 (hL.1 0 _ rfl),A7 (hL.1 1 _ rfl),Ae⟩ ⟨fun w1 hw1=>Cj w1 (c.Aq.xs.length:Int) 1 4,fun w2 hw2=>Bz w2 (hL.ext (hw2.ext rfl)) (win (c.Aq.xs.length:Int) 1 4) 402 (-1) (-1),Ae⟩ (fun n3 hn4 => ?_)
 replace hn4:z+1≤n3:=hn4
 refine BC 6 ?_
 refine BH (an 3 1) [1] [Qb z,Qb z,Qb z] [(1,pt z)] ⟨w,n3,[(Ak w),(qis8_0 z c)]⟩ [] ⟨rfl,rfl,rfl,Ae⟩ (.inl rfl) ?_
 refine Es 7 [0,1] [(Ak w),(qis8_0 z c)] rfl rfl ?_
 refine CU ?_
 refine BK [1] [(1,pt z)] ?_
 refine IM <| KR <| AA [.at 1,.at 1,.at 1] [Qb z,Qb z,Qb z] (.agg #[i6 ((Ah (win (c.Aq.xs.length:Int) 1 4) 402 ⟨-1, -1⟩).e),i6 ((Ah (win (c.Aq.xs.length:Int) 1 4) 402 ⟨-1, -1⟩).Ai.First),i6 ((Ah (win (c.Aq.xs.length:Int) 1 4) 402 ⟨-1, -1⟩).Ai.Second)]) ⟨rfl,rfl,rfl,Ae⟩ ?_
 intro w5 hw5
 exact⟨congrArg (fun t=>Ending.returned (Value.agg (Ar.arr t))) (show(Ah (win (c.Aq.xs.length:Int) 1 4) 402 ⟨-1, -1⟩)=Gm c from by unfold Gm;first | rfl | rw[decide_eq_false (by omega)] | rw[decide_eq_true (by omega)]),AO hw5⟩
section
variable (z:Nat)(c:Aj)
abbrev qimu_0:Ch:= .blk z (.cells (Ar.arr (Ah (win (c.Aa.xs.length:Int) 1 8) 403 ⟨-1, -1⟩)) 73 (0,0)) true
end
theorem q4_calls(w:World)(hL:JM w)(c:Aj)(hc:Aj.ok Any w c)(bc:Nat)(hbc:∀ (k:Nat) (v:Value),(Aj.cells c)[k]? = some v→w.cell? ⟨bc,0+k,none⟩=some v):Calls Tryd.prog 45 #[.pointer (some ⟨bc,0,none⟩)] w fun e w'=>e = .returned (.agg (Ar.arr (Gn c)))∧CP (fun _=>False) w w':=by
 obtain⟨z,hz⟩:∃ z,z=w.heap.size:=⟨_,rfl⟩
 refine CE (args:=[pt bc]) 8 ⟨w,z,[(Ak w)]⟩ Tryd.func45 rfl (by kernel_rfl) (by kernel_rfl) (Ep hz) ?_
 have hpl:=hc.Aa.1.len;have hpc:=hc.Aq.1.len;have hpch:=hc.Ag.1.len
 refine DC [0] [(0,pt bc)] ?_
 refine q_c 5 0 [] [[o0]] [] [(0,pt bc),(1,pt z)] ⟨w,z+1,[(Ak w),(bk z #[i6 0,i6 0,i6 0] 73)]⟩ rfl Ae ?_
 refine Eh 6 [0,1] [(Ak w),(bk z #[i6 0,i6 0,i6 0] 73)] rfl rfl ?_
 refine JB [.tk 0 o0,.tk 1 (oa [.via 0 (.slice c.Aa.a c.Aa.xs.length c.Aa.cap)]),.tk 2 o0,.tk 4 (oa [.via 0 (i6 (-1)),.via 0 (i6 (-1))]),.cl 3 (.bool (win (c.Aa.xs.length:Int) 1 8)),.cl 5 (.agg (Ar.arr (Ah (win (c.Aa.xs.length:Int) 1 8) 403 ⟨-1, -1⟩)))] [1,7] [(42,#[(Ac c.Aa.xs.length),i6 1,i6 8],.bool (win (c.Aa.xs.length:Int) 1 8)),(41,#[.bool (win (c.Aa.xs.length:Int) 1 8),i6 403,.agg #[i6 (-1),i6 (-1)]],.agg (Ar.arr (Ah (win (c.Aa.xs.length:Int) 1 8) 403 ⟨-1, -1⟩)))] (DF 6 1) [Old w bc 5 (.slice c.Aa.a c.Aa.xs.length c.Aa.cap),Old w 1 0 (i6 (-1)),Old w 1 1 (i6 (-1))] [(1,pt z),(7,.agg (Ar.arr (Ah (win (c.Aa.xs.length:Int) 1 8) 403 ⟨-1, -1⟩)))] [0,1] ⟨A7 (hbc 5 _ rfl),A7 (hL.1 0 _ rfl),A7 (hL.1 1 _ rfl),Ae⟩ ⟨fun w1 hw1=>Cj w1 (c.Aa.xs.length:Int) 1 8,fun w2 hw2=>Bz w2 (hL.ext (hw2.ext rfl)) (win (c.Aa.xs.length:Int) 1 8) 403 (-1) (-1),Ae⟩ (fun n3 hn4 => ?_)
 replace hn4:z+1≤n3:=hn4
 refine BC 6 ?_
 refine BH (an 3 1) [1] [Qb z,Qb z,Qb z] [(1,pt z)] ⟨w,n3,[(Ak w),(qimu_0 z c)]⟩ [] ⟨rfl,rfl,rfl,Ae⟩ (.inl rfl) ?_
 refine Es 7 [0,1] [(Ak w),(qimu_0 z c)] rfl rfl ?_
 refine CU ?_
 refine BK [1] [(1,pt z)] ?_
 refine IM <| KR <| AA [.at 1,.at 1,.at 1] [Qb z,Qb z,Qb z] (.agg #[i6 ((Ah (win (c.Aa.xs.length:Int) 1 8) 403 ⟨-1, -1⟩).e),i6 ((Ah (win (c.Aa.xs.length:Int) 1 8) 403 ⟨-1, -1⟩).Ai.First),i6 ((Ah (win (c.Aa.xs.length:Int) 1 8) 403 ⟨-1, -1⟩).Ai.Second)]) ⟨rfl,rfl,rfl,Ae⟩ ?_
 intro w5 hw5
 exact⟨congrArg (fun t=>Ending.returned (Value.agg (Ar.arr t))) (show(Ah (win (c.Aa.xs.length:Int) 1 8) 403 ⟨-1, -1⟩)=Gn c from by unfold Gn;first | rfl | rw[decide_eq_false (by omega)] | rw[decide_eq_true (by omega)]),AO hw5⟩
theorem q5_calls(w:World)(hL:JM w)(c:Aj)(hc:Aj.ok Any w c)(bc:Nat)(hbc:∀ (k:Nat) (v:Value),(Aj.cells c)[k]? = some v→w.cell? ⟨bc,0+k,none⟩=some v):Calls Tryd.prog 46 #[.pointer (some ⟨bc,0,none⟩)] w fun e w'=>e = .returned (.agg (Ar.arr (FV c)))∧CP (fun _=>False) w w':=by
 obtain⟨z,hz⟩:∃ z,z=w.heap.size:=⟨_,rfl⟩
 refine CE (args:=[pt bc]) 8 ⟨w,z,[(Ak w)]⟩ Tryd.func46 rfl (by kernel_rfl) (by kernel_rfl) (Ep hz) ?_
 have hpl:=hc.Aa.1.len;have hpc:=hc.Aq.1.len;have hpch:=hc.Ag.1.len
 refine DC [0] [(0,pt bc)] ?_
 refine q_c 5 0 [] [[o0]] [] [(0,pt bc),(1,pt z)] ⟨w,z+1,[(Ak w),(bk z #[i6 0,i6 0,i6 0] 73)]⟩ rfl Ae ?_
 by_cases h1:(16:Int)<(c.Ag.xs.length:Int)
 ·refine Az 1 5 [] [[o0,(oa [.via 0 (.slice c.Ag.a c.Ag.xs.length c.Ag.cap)]),o0,oF,(oa [.via 0 (i6 (-1)),.via 0 (i6 (-1))])]] [Old w bc 6 (.slice c.Ag.a c.Ag.xs.length c.Ag.cap),BF ((c.Ag.xs.length:Int)≤16),Old w 1 0 (i6 (-1)),Old w 1 1 (i6 (-1))] [(1,pt z),(5,.bool false),(6,.agg #[i6 (-1),i6 (-1)])] rfl ⟨A7 (hbc 6 _ rfl),bf,A7 (hL.1 0 _ rfl),A7 (hL.1 1 _ rfl),Ae⟩ ?_
  refine Bf 41 #[.bool false,i6 404,.agg #[i6 (-1),i6 (-1)]] (some 7) (.agg (Ar.arr (Ah false 404 ⟨-1, -1⟩))) (fun w2 hw2=>Bz w2 (hL.ext (hw2.ext rfl)) false 404 (-1) (-1)) (fun n3 (hn4:z+1≤n3) => ?_)
  refine EY 3 0 [] [[(an 3 1)]] [Qb z,Qb z,Qb z] [(1,pt z)] ⟨w,n3,[(Ak w),(bk z (Ar.arr (Ah false 404 ⟨-1, -1⟩)) 73)]⟩ rfl ⟨rfl,rfl,rfl,Ae⟩ ?_
  refine AA [.at 1,.at 1,.at 1] [Qb z,Qb z,Qb z] (.agg #[i6 ((Ah false 404 ⟨-1, -1⟩).e),i6 ((Ah false 404 ⟨-1, -1⟩).Ai.First),i6 ((Ah false 404 ⟨-1, -1⟩).Ai.Second)]) ⟨rfl,rfl,rfl,Ae⟩ ?_
  intro w5 hw5
  exact⟨congrArg (fun t=>Ending.returned (Value.agg (Ar.arr t))) (show(Ah false 404 ⟨-1, -1⟩)=FV c from by unfold FV;first | rfl | rw[decide_eq_false (by omega)] | rw[decide_eq_true (by omega)]),AO hw5⟩
 refine Az 1 5 [] [[o0,(oa [.via 0 (.slice c.Ag.a c.Ag.xs.length c.Ag.cap)]),o0,oT,(oa [.via 0 (i6 (-1)),.via 0 (i6 (-1))])]] [Old w bc 6 (.slice c.Ag.a c.Ag.xs.length c.Ag.cap),BT ((c.Ag.xs.length:Int)≤16),Old w 1 0 (i6 (-1)),Old w 1 1 (i6 (-1))] [(1,pt z),(5,.bool true),(6,.agg #[i6 (-1),i6 (-1)])] rfl ⟨A7 (hbc 6 _ rfl),bt,A7 (hL.1 0 _ rfl),A7 (hL.1 1 _ rfl),Ae⟩ ?_
 refine Bf 41 #[.bool true,i6 404,.agg #[i6 (-1),i6 (-1)]] (some 7) (.agg (Ar.arr (Ah true 404 ⟨-1, -1⟩))) (fun w6 hw6=>Bz w6 (hL.ext (hw6.ext rfl)) true 404 (-1) (-1)) (fun n7 (hn8:z+1≤n7) => ?_)
 refine EY 3 0 [] [[(an 3 1)]] [Qb z,Qb z,Qb z] [(1,pt z)] ⟨w,n7,[(Ak w),(bk z (Ar.arr (Ah true 404 ⟨-1, -1⟩)) 73)]⟩ rfl ⟨rfl,rfl,rfl,Ae⟩ ?_
 refine AA [.at 1,.at 1,.at 1] [Qb z,Qb z,Qb z] (.agg #[i6 ((Ah true 404 ⟨-1, -1⟩).e),i6 ((Ah true 404 ⟨-1, -1⟩).Ai.First),i6 ((Ah true 404 ⟨-1, -1⟩).Ai.Second)]) ⟨rfl,rfl,rfl,Ae⟩ ?_
 intro w9 hw9
 exact⟨congrArg (fun t=>Ending.returned (Value.agg (Ar.arr t))) (show(Ah true 404 ⟨-1, -1⟩)=FV c from by unfold FV;first | rfl | rw[decide_eq_false (by omega)] | rw[decide_eq_true (by omega)]),AO hw9⟩
theorem q6_calls(w:World)(hL:JM w)(c:Aj)(hc:Aj.ok Any w c)(bc:Nat)(hbc:∀ (k:Nat) (v:Value),(Aj.cells c)[k]? = some v→w.cell? ⟨bc,0+k,none⟩=some v)(b p:Nat)(hb:∀ (k:Nat) (v:Value),[Value.int .i64 (p:Nat)][k]? = some v→w.cell? ⟨b,0+k,none⟩=some v)(hp:p<c.Aa.xs.length)(hFr:1≤c.Frames∧c.Frames≤1024)(hpf:∀ q,q<p→CX c q=Bg):Calls Tryd.prog 47 #[.pointer (some ⟨bc,0,none⟩),.pointer (some ⟨b,0,none⟩)] w fun e w'=>e = .returned (.agg (Ar.arr (CX c p)))∧CP (fun _=>False) w w':=by
 obtain⟨z,hz⟩:∃ z,z=w.heap.size:=⟨_,rfl⟩
 refine CE (args:=[pt bc,pt b]) 6 ⟨w,z,[(Ak w)]⟩ Tryd.func47 rfl (by kernel_rfl) (by kernel_rfl) (Ep hz) ?_
 have hpl:=hc.Aa.1.len;have hpc:=hc.Aq.1.len;have hpch:=hc.Ag.1.len
 refine DC [0,1] [(0,pt bc),(1,pt b)] ?_
 refine q_c 6 2 [] [[o0],[(ol 0 (Aj.arr c)),(oa [.via 0 (Ac p)])]] [Fa w bc 0 (Aj.arr c),Old w b 0 (Ac p)] [(2,pt z),(3,.agg (Aj.arr c)),(4,Ac p)] ⟨w,z+1,[(Ak w),(bk z #[i6 0,i6 0,i6 0] 73)]⟩ rfl ⟨Dt hbc,A7 (hb 0 _ rfl),Ae⟩ ?_
 refine Bf 48 #[.agg (Aj.arr c),Ac p] (some 5) (.agg (Ar.arr (CX c p))) (fun w1 hw1=>S9 w1 (hL.ext (hw1.ext rfl)) c (hc.ext (hw1.ext rfl) (fun _ h=>h)) p hp hFr hpf) (fun n2 (hn3:z+1≤n2) => ?_)
 refine EY 3 0 [] [[(an 3 1)]] [Qb z,Qb z,Qb z] [(2,pt z)] ⟨w,n2,[(Ak w),(bk z (Ar.arr (CX c p)) 73)]⟩ rfl ⟨rfl,rfl,rfl,Ae⟩ ?_
 refine AA [.at 1,.at 1,.at 1] [Qb z,Qb z,Qb z] (.agg #[i6 ((CX c p).e),i6 ((CX c p).Ai.First),i6 ((CX c p).Ai.Second)]) ⟨rfl,rfl,rfl,Ae⟩ ?_
 intro w4 hw4
 exact⟨rfl,AO hw4⟩
theorem q7_calls(w:World)(hL:JM w)(c:Aj)(hc:Aj.ok Any w c)(bc:Nat)(hbc:∀ (k:Nat) (v:Value),(Aj.cells c)[k]? = some v→w.cell? ⟨bc,0+k,none⟩=some v)(b p:Nat)(hb:∀ (k:Nat) (v:Value),[Value.int .i64 (p:Nat)][k]? = some v→w.cell? ⟨b,0+k,none⟩=some v)(hp:p<c.Ag.xs.length)(hm:c.Aa.xs.length≤1024)(hq:∀ p,p<c.Aa.xs.length→(gd c.Aa.xs p).Am.xs.length≤1024):Calls Tryd.prog 49 #[.pointer (some ⟨bc,0,none⟩),.pointer (some ⟨b,0,none⟩)] w fun e w'=>e = .returned (.agg (Ar.arr (Dx c p)))∧CP (fun _=>False) w w':=by
 obtain⟨z,hz⟩:∃ z,z=w.heap.size:=⟨_,rfl⟩
 refine CE (args:=[pt bc,pt b]) 6 ⟨w,z,[(Ak w)]⟩ Tryd.func49 rfl (by kernel_rfl) (by kernel_rfl) (Ep hz) ?_
 have hpl:=hc.Aa.1.len;have hpc:=hc.Aq.1.len;have hpch:=hc.Ag.1.len
 refine DC [0,1] [(0,pt bc),(1,pt b)] ?_
 refine q_c 6 2 [] [[o0],[(ol 0 (Aj.arr c)),(oa [.via 0 (Ac p)])]] [Fa w bc 0 (Aj.arr c),Old w b 0 (Ac p)] [(2,pt z),(3,.agg (Aj.arr c)),(4,Ac p)] ⟨w,z+1,[(Ak w),(bk z #[i6 0,i6 0,i6 0] 73)]⟩ rfl ⟨Dt hbc,A7 (hb 0 _ rfl),Ae⟩ ?_
 refine Bf 50 #[.agg (Aj.arr c),Ac p] (some 5) (.agg (Ar.arr (Dx c p))) (fun w1 hw1=>Zb5 w1 (hL.ext (hw1.ext rfl)) c (hc.ext (hw1.ext rfl) (fun _ h=>h)) p hp hm hq) (fun n2 (hn3:z+1≤n2) => ?_)
 refine EY 3 0 [] [[(an 3 1)]] [Qb z,Qb z,Qb z] [(2,pt z)] ⟨w,n2,[(Ak w),(bk z (Ar.arr (Dx c p)) 73)]⟩ rfl ⟨rfl,rfl,rfl,Ae⟩ ?_
 refine AA [.at 1,.at 1,.at 1] [Qb z,Qb z,Qb z] (.agg #[i6 ((Dx c p).e),i6 ((Dx c p).Ai.First),i6 ((Dx c p).Ai.Second)]) ⟨rfl,rfl,rfl,Ae⟩ ?_
 intro w4 hw4
 exact⟨rfl,AO hw4⟩
theorem q8_calls(w:World)(hL:JM w)(c:Aj)(hc:Aj.ok Any w c)(bc:Nat)(hbc:∀ (k:Nat) (v:Value),(Aj.cells c)[k]? = some v→w.cell? ⟨bc,0+k,none⟩=some v)(b p:Nat)(hb:∀ (k:Nat) (v:Value),[Value.int .i64 (p:Nat)][k]? = some v→w.cell? ⟨b,0+k,none⟩=some v)(hp:p<c.Aq.xs.length)  : Calls Tryd.prog 51 #[.pointer (some ⟨bc,0,none⟩),.pointer (some ⟨b,0,none⟩)] w fun e w'=>e = .returned (.agg (Ar.arr (Em c p)))∧CP (fun _=>False) w w':=by
 obtain⟨z,hz⟩:∃ z,z=w.heap.size:=⟨_,rfl⟩
 refine CE (args:=[pt bc,pt b]) 6 ⟨w,z,[(Ak w)]⟩ Tryd.func51 rfl (by kernel_rfl) (by kernel_rfl) (Ep hz) ?_
 have hpl:=hc.Aa.1.len;have hpc:=hc.Aq.1.len;have hpch:=hc.Ag.1.len
 refine DC [0,1] [(0,pt bc),(1,pt b)] ?_
 refine q_c 6 2 [] [[o0],[(ol 0 (Aj.arr c)),(oa [.via 0 (Ac p)])]] [Fa w bc 0 (Aj.arr c),Old w b 0 (Ac p)] [(2,pt z),(3,.agg (Aj.arr c)),(4,Ac p)] ⟨w,z+1,[(Ak w),(bk z #[i6 0,i6 0,i6 0] 73)]⟩ rfl ⟨Dt hbc,A7 (hb 0 _ rfl),Ae⟩ ?_
 refine Bf 52 #[.agg (Aj.arr c),Ac p] (some 5) (.agg (Ar.arr (Em c p))) (fun w1 hw1=>core_calls w1 (hL.ext (hw1.ext rfl)) c (hc.ext (hw1.ext rfl) (fun _ h=>h)) p hp) (fun n2 (hn3:z+1≤n2) => ?_)
 refine EY 3 0 [] [[(an 3 1)]] [Qb z,Qb z,Qb z] [(2,pt z)] ⟨w,n2,[(Ak w),(bk z (Ar.arr (Em c p)) 73)]⟩ rfl ⟨rfl,rfl,rfl,Ae⟩ ?_
 refine AA [.at 1,.at 1,.at 1] [Qb z,Qb z,Qb z] (.agg #[i6 ((Em c p).e),i6 ((Em c p).Ai.First),i6 ((Em c p).Ai.Second)]) ⟨rfl,rfl,rfl,Ae⟩ ?_
 intro w4 hw4
 exact⟨rfl,AO hw4⟩
theorem q9_calls(w:World)(hL:JM w)(c:Aj)(hc:Aj.ok Any w c)(bc:Nat)(hbc:∀ (k:Nat) (v:Value),(Aj.cells c)[k]? = some v→w.cell? ⟨bc,0+k,none⟩=some v)(hFr:1≤c.Frames∧c.Frames≤1024)(hpf:∀ q,q<c.Aa.xs.length→CX c q=Bg):Calls Tryd.prog 53 #[.pointer (some ⟨bc,0,none⟩)] w fun e w'=>e = .returned (.agg (Ar.arr (IQ c)))∧CP (fun _=>False) w w':=by
 obtain⟨z,hz⟩:∃ z,z=w.heap.size:=⟨_,rfl⟩
 refine CE (args:=[pt bc]) 6 ⟨w,z,[(Ak w)]⟩ Tryd.func53 rfl (by kernel_rfl) (by kernel_rfl) (Ep hz) ?_
 have hpl:=hc.Aa.1.len;have hpc:=hc.Aq.1.len;have hpch:=hc.Ag.1.len
 refine DC [0] [(0,pt bc)] ?_
 refine q_c 5 0 [] [[o0]] [] [(0,pt bc),(1,pt z)] ⟨w,z+1,[(Ak w),(bk z #[i6 0,i6 0,i6 0] 73)]⟩ rfl Ae ?_
 refine Eh 4 [0,1] [(Ak w),(bk z #[i6 0,i6 0,i6 0] 73)] rfl rfl ?_
 refine JB [.tk 0 (ol 0 (Aj.arr c)),.tk 2 (oa [.via 0 (i6 (-1)),.via 0 (i6 (-1))]),.cl 1 (.bool (FM c)),.cl 3 (.agg (Ar.arr (Ah (FM c) 423 ⟨-1, -1⟩)))] [1,5] [(54,#[.agg (Aj.arr c)],.bool (FM c)),(41,#[.bool (FM c),i6 423,.agg #[i6 (-1),i6 (-1)]],.agg (Ar.arr (Ah (FM c) 423 ⟨-1, -1⟩)))] (DF 4 1) [Fa w bc 0 (Aj.arr c),Old w 1 0 (i6 (-1)),Old w 1 1 (i6 (-1))] [(1,pt z),(5,.agg (Ar.arr (Ah (FM c) 423 ⟨-1, -1⟩)))] [0,1] ⟨Dt hbc,A7 (hL.1 0 _ rfl),A7 (hL.1 1 _ rfl),Ae⟩ ⟨fun w1 hw1=>Zcb w1 (hL.ext (hw1.ext rfl)) c (hc.ext (hw1.ext rfl) (fun _ h=>h)) hFr hpf,fun w2 hw2=>Bz w2 (hL.ext (hw2.ext rfl)) (FM c) 423 (-1) (-1),Ae⟩ (fun n3 hn4 => ?_)
 replace hn4:z+1≤n3:=hn4
 refine BC 4 ?_
 refine BH (an 3 1) [1] [Qb z,Qb z,Qb z] [(1,pt z)] ⟨w,n3,[(Ak w),(.blk z (.cells (Ar.arr (Ah (FM c) 423 ⟨-1, -1⟩)) 73 (0,0)) true)]⟩ [] ⟨rfl,rfl,rfl,Ae⟩ (.inl rfl) ?_
 refine Es 5 [0,1] [(Ak w),(.blk z (.cells (Ar.arr (Ah (FM c) 423 ⟨-1, -1⟩)) 73 (0,0)) true)] rfl rfl ?_
 refine CU ?_
 refine BK [1] [(1,pt z)] ?_
 refine IM <| KR <| AA [.at 1,.at 1,.at 1] [Qb z,Qb z,Qb z] (.agg #[i6 ((Ah (FM c) 423 ⟨-1, -1⟩).e),i6 ((Ah (FM c) 423 ⟨-1, -1⟩).Ai.First),i6 ((Ah (FM c) 423 ⟨-1, -1⟩).Ai.Second)]) ⟨rfl,rfl,rfl,Ae⟩ ?_
 intro w5 hw5
 exact⟨congrArg (fun t=>Ending.returned (Value.agg (Ar.arr t))) (show(Ah (FM c) 423 ⟨-1, -1⟩)=IQ c from by unfold IQ;first | rfl | rw[decide_eq_false (by omega)] | rw[decide_eq_true (by omega)]),AO hw5⟩
abbrev fn1(f bc:Nat):Value:= .func (.func f) #[] #[.pointer (some ⟨bc,0,none⟩)]
abbrev fn2(f bc b:Nat):Value:= .func (.func f) #[] #[.pointer (some ⟨bc,0,none⟩),.pointer (some ⟨b,0,none⟩)]
def Hz(bc:Nat):List Value:=[fn1 40 bc,fn1 43 bc,fn1 44 bc,fn1 45 bc,fn1 46 bc]
def clo(f bc:Nat)(B:List Nat):List Value:=B.map fun b=>fn2 f bc b
theorem Zf{f bc b:Nat}{B:List Nat}:clo f bc (B++[b])=clo f bc B++[.func (.func f) #[] #[.pointer (some ⟨bc,0,none⟩),.pointer (some ⟨b,0,none⟩)]]:=List.map_append
theorem Ld{f bc:Nat}{B:List Nat}:(clo f bc B).length=B.length:=List.length_map _
def asks(bc:Nat)(B1 B2 B3:List Nat):List Value:=Hz bc++clo 47 bc B1++clo 49 bc B2++clo 51 bc B3++[.func (.func 53) #[] #[.pointer (some ⟨bc,0,none⟩)]]
def answers(c:Aj):List Ar:=[G8 c,whole2 c,Gm c,Gn c,FV c]++(List.range c.Aa.xs.length).map (CX c)++(List.range c.Ag.xs.length).map (Dx c)++(List.range c.Aq.xs.length).map (Em c)++[IQ c]
def CO(c:Aj):Ar:=Bc (answers c)
theorem Zc3{bc:Nat}{B1 B2 B3:List Nat}:(asks bc B1 B2 B3).length=6+B1.length+B2.length+B3.length:=by
 simp[asks,Hz,clo];omega
theorem Iz{c:Aj}:(answers c).length=6+c.Aa.xs.length+c.Ag.xs.length+c.Aq.xs.length:=by
 simp[answers];omega
theorem Om{α:Type}[Inhabited α]{a b:List α}{k:Nat}(h:k<a.length):gd (a++b) k=gd a k:=by
 rw[F9 (by rw[List.length_append];omega),F9 h,List.getElem_append_left h]
theorem Xo{α:Type}[Inhabited α]{a b:List α}{k n:Nat}(h:n=a.length+k)(hk:k<b.length):gd (a++b) n=gd b k:=by
 subst h
 rw[F9 (by rw[List.length_append];omega),F9 hk,List.getElem_append_right (by omega)]
 congr 1;omega
theorem Zar{β:Type}[Inhabited β]{f:Nat→β}{n i:Nat}(h:i<n):gd ((List.range n).map f) i=f i:=by
 rw[F9 (by simpa using h)];simp
theorem ZbF{f bc b:Nat}{B:List Nat}{i:Nat}(h:B[i]? = some b):gd (clo f bc B) i=fn2 f bc b:=by
 obtain⟨hi,e⟩:=List.getElem?_eq_some_iff.1 h
 rw[F9 (by rw[Ld];exact hi)]
 simp[clo,e]
section
variable {c:Aj}{bc:Nat}{B1 B2 B3:List Nat}
theorem ask_lo{k:Nat}(hk:k<5):gd (asks bc B1 B2 B3) k=gd (Hz bc) k:=by
 unfold asks
 have h5:(Hz bc).length=5:=rfl
 rw[Om (by simp only[List.length_append];omega),Om (by simp only[List.length_append];omega),Om (by simp only[List.length_append];omega),Om (by omega)]
theorem Zp{k:Nat}(hk:k<5):gd (answers c) k=gd [G8 c,whole2 c,Gm c,Gn c,FV c] k:=by
 unfold answers
 rw[Om (by simp;omega),Om (by simp;omega),Om (by simp;omega),Om (by simpa using hk)]
theorem ZR{p:Nat}(hp:p<c.Aa.xs.length):gd (answers c) (5+p)=CX c p:=by
 unfold answers
 rw[Om (by simp;omega),Om (by simp;omega),Om (by simp;omega),Xo (k:=p) (by simp) (by simpa using hp),Zar hp]
theorem ZbA{p:Nat}(hp:p<c.Ag.xs.length):gd (answers c) (5+c.Aa.xs.length+p)=Dx c p:=by
 unfold answers
 rw[Om (by simp;omega),Om (by simp;omega),Xo (k:=p) (by simp;omega) (by simpa using hp),Zar hp]
theorem ZbD{p:Nat}(hp:p<c.Aq.xs.length):gd (answers c) (5+c.Aa.xs.length+c.Ag.xs.length+p)=Em c p:=by
 unfold answers
 rw[Om (by simp;omega),Xo (k:=p) (by simp;omega) (by simpa using hp),Zar hp]
theorem ZbB:gd (answers c) (5+c.Aa.xs.length+c.Ag.xs.length+c.Aq.xs.length)=IQ c:=by
 unfold answers
 rw[Xo (k:=0) (by simp;omega) (by simp)];rfl
theorem kinds(h1:B1.length=c.Aa.xs.length)(h2:B2.length=c.Ag.xs.length)(h3:B3.length=c.Aq.xs.length){k:Nat}(hk:k<(asks bc B1 B2 B3).length) :
   (k=0∧gd (asks bc B1 B2 B3) k = .func (.func 40) #[] #[.pointer (some ⟨bc,0,none⟩)]∧gd (answers c) k=G8 c)∨(k=1∧gd (asks bc B1 B2 B3) k = .func (.func 43) #[] #[.pointer (some ⟨bc,0,none⟩)]∧gd (answers c) k=whole2 c)∨(k=2∧gd (asks bc B1 B2 B3) k = .func (.func 44) #[] #[.pointer (some ⟨bc,0,none⟩)]∧gd (answers c) k=Gm c) ∨
   (k=3∧gd (asks bc B1 B2 B3) k = .func (.func 45) #[] #[.pointer (some ⟨bc,0,none⟩)]∧gd (answers c) k=Gn c)∨(k=4∧gd (asks bc B1 B2 B3) k = .func (.func 46) #[] #[.pointer (some ⟨bc,0,none⟩)]∧gd (answers c) k=FV c) ∨
   (∃ p b,k=5+p∧p<c.Aa.xs.length∧B1[p]? = some b∧gd (asks bc B1 B2 B3) k = .func (.func 47) #[] #[.pointer (some ⟨bc,0,none⟩),.pointer (some ⟨b,0,none⟩)]∧gd (answers c) k=CX c p) ∨
   (∃ p b,k=5+c.Aa.xs.length+p∧p<c.Ag.xs.length∧B2[p]? = some b∧gd (asks bc B1 B2 B3) k = .func (.func 49) #[] #[.pointer (some ⟨bc,0,none⟩),.pointer (some ⟨b,0,none⟩)]∧gd (answers c) k=Dx c p) ∨
   (∃ p b,k=5+c.Aa.xs.length+c.Ag.xs.length+p∧p<c.Aq.xs.length∧B3[p]? = some b∧gd (asks bc B1 B2 B3) k = .func (.func 51) #[] #[.pointer (some ⟨bc,0,none⟩),.pointer (some ⟨b,0,none⟩)]∧gd (answers c) k=Em c p) ∨
   (k=5+c.Aa.xs.length+c.Ag.xs.length+c.Aq.xs.length∧gd (asks bc B1 B2 B3) k = .func (.func 53) #[] #[.pointer (some ⟨bc,0,none⟩)]∧gd (answers c) k=IQ c):=by
 rw[Zc3]at hk
 have l5:(Hz bc).length=5:=rfl
 have hB:∀ (B:List Nat) (i:Nat),i<B.length→∃ b,B[i]? = some b:=fun B i hi=>⟨B[i],by simp[hi]⟩
 rcases Nat.lt_or_ge k 5 with g | g
 · rw[ask_lo g,Zp g]
   rcases(by omega:k=0∨k=1∨k=2∨k=3∨k=4)with rfl | rfl | rfl | rfl | rfl
   · exact .inl ⟨rfl,rfl,rfl⟩
   · exact .inr (.inl ⟨rfl,rfl,rfl⟩)
   · exact .inr (.inr (.inl ⟨rfl,rfl,rfl⟩))
   · exact .inr (.inr (.inr (.inl ⟨rfl,rfl,rfl⟩)))
   · exact .inr (.inr (.inr (.inr (.inl ⟨rfl,rfl,rfl⟩))))
 refine .inr (.inr (.inr (.inr (.inr ?_))))
 rcases Nat.lt_or_ge k (5+c.Aa.xs.length)with g1 | g1
 · obtain⟨p,rfl⟩:∃ p,k=5+p:=⟨k - 5,by omega⟩
   obtain⟨b,hb⟩:=hB B1 p (by omega)
   refine .inl ⟨p,b,rfl,by omega,hb, ?_,ZR (by omega)⟩
   unfold asks
   rw[Om (by simp only[List.length_append,Ld];omega),Om (by simp only[List.length_append,Ld];omega),Om (by simp only[List.length_append,Ld];omega),Xo (k:=p) (by omega) (by rw[Ld];omega),ZbF hb]
 rcases Nat.lt_or_ge k (5+c.Aa.xs.length+c.Ag.xs.length)with g2 | g2
 · obtain⟨p,rfl⟩:∃ p,k=5+c.Aa.xs.length+p:=⟨k - (5+c.Aa.xs.length),by omega⟩
   obtain⟨b,hb⟩:=hB B2 p (by omega)
   refine .inr (.inl ⟨p,b,rfl,by omega,hb, ?_,ZbA (by omega)⟩)
   unfold asks
   rw[Om (by simp only[List.length_append,Ld];omega),Om (by simp only[List.length_append,Ld];omega),Xo (k:=p) (by simp only[List.length_append,Ld];omega) (by rw[Ld];omega),ZbF hb]
 rcases Nat.lt_or_ge k (5+c.Aa.xs.length+c.Ag.xs.length+c.Aq.xs.length)with g3 | g3
 · obtain⟨p,rfl⟩:∃ p,k=5+c.Aa.xs.length+c.Ag.xs.length+p:=⟨k - (5+c.Aa.xs.length+c.Ag.xs.length),by omega⟩
   obtain⟨b,hb⟩:=hB B3 p (by omega)
   refine .inr (.inr (.inl ⟨p,b,rfl,by omega,hb, ?_,ZbD (by omega)⟩))
   unfold asks
   rw[Om (by simp only[List.length_append,Ld];omega),Xo (k:=p) (by simp only[List.length_append,Ld];omega) (by rw[Ld];omega),ZbF hb]
 · obtain rfl:k=5+c.Aa.xs.length+c.Ag.xs.length+c.Aq.xs.length:=by omega
   refine .inr (.inr (.inr ⟨rfl, ?_,ZbB⟩))
   unfold asks
   rw[Xo (k:=0) (by simp only[List.length_append,Ld];omega) (by simp)];rfl
variable {n:Nat}(hf:∀ i,i<n→gd (answers c) i=Bg)
theorem Xm(hf:∀ i,i<n→gd (answers c) i=Bg)(hn:1≤n):1≤c.Frames∧c.Frames≤1024:=by
 have h:=hf 0 (by omega)
 rw[Zp (by decide)]at h
 exact EE ((UI (by decide)).1 (show Ah (win c.Frames 1 1024) 400 ⟨-1, -1⟩=Bg from h))
theorem ZbS(hf:∀ i,i<n→gd (answers c) i=Bg)(hn:4≤n):c.Aa.xs.length≤1024:=by
 have h:=hf 3 (by omega)
 rw[Zp (by decide)]at h
 have:=EE ((UI (by decide)).1 (show Ah (win (c.Aa.xs.length:Int) 1 8) 403 ⟨-1, -1⟩=Bg from h))
 omega
theorem Za7(hf:∀ i,i<n→gd (answers c) i=Bg){q:Nat}(hq:q<c.Aa.xs.length)(hn:5+q<n):CX c q=Bg:=by
 rw[←ZR hq];exact hf _ hn
theorem partQ_E{c:Aj}{p:Nat}(h:CX c p=Bg):FZ (Bc (H9 c p)) (J8 c p) (EQ c p).Am.xs.length=Bg:=by
 unfold CX at h
 rw[if_pos (TZ (by unfold CX;exact h))]at h
 exact h
theorem ports_of(hf:∀ i,i<n→gd (answers c) i=Bg)(hn:5+c.Aa.xs.length≤n):∀ p,p<c.Aa.xs.length→(gd c.Aa.xs p).Am.xs.length≤1024:=by
 intro p hp
 have h:=(Vo (partQ_E (Za7 hf hp (by omega)))).1
 have h2:=VC h _ (List.mem_cons_of_mem _ (List.mem_cons_self ..))
 rw[UI (by decide)]at h2
 have:=of_decide_eq_true h2
 simp only[EQ]at this
 omega
end
end Go.Proofs.YtnjhekfgmbpmlaaDoor.Ad
namespace Go.Proofs.YtnjhekfgmbpmlaaDoor.Eng
open Go Go.Proofs.YtnjhekfgmbpmlaaDoor.Mem
set_option linter.unusedSimpArgs false
set_option linter.unusedVariables false
def caps(t:TypeId)(B:List Nat):Ch:= .inv (fun b=>b∈B) (fun w=>∀ (i b:Nat),B[i]? = some b→w.heap[b]? = some (.cells #[.int .i64 (i:Nat)] t (0,0))) true
theorem YR(t:TypeId)(B:List Nat):(caps t B).stable:=fun w w' h hw i b hb=>(h b (List.mem_of_getElem? hb)).trans (hw i b hb)
theorem WH{A:AW}{w:World}(h:Sat A w){i j b:Nat}{t:TypeId}{B:List Nat}(hb:B[j]? = some b)(hi:A.σ[i]? = some (caps t B):=by rfl):∀ (k:Nat) (v:Value),[Value.int .i64 (j:Nat)][k]? = some v→w.cell? ⟨b,0+k,none⟩=some v:=by
 have h1:w.heap[b]? = some (.cells #[.int .i64 (j:Nat)] t (0,0)):=h.at hi j b hb
 intro k v hk
 match k,hk with
 | 0,hk=>cases hk;simp[World.cell?,h1]
theorem NR{A:AW}{w:World}(h:Sat A w){i b:Nat}{cs:Array Value}{t:TypeId}{fr:Nat×Nat}{rw':Bool}{l:List Value}(hi:A.σ[i]? = some (.blk b (.cells cs t fr) rw'):=by rfl)(hl:l=cs.toList:=by rfl):∀ (k:Nat) (v:Value),l[k]? = some v→w.cell? ⟨b,0+k,none⟩=some v:=by
 have h1:w.heap[b]? = some (.cells cs t fr):=h.at hi
 intro k v hk
 subst hl
 simp[World.cell?,h1]at hk ⊢
 exact hk
theorem Sat.caps{A:AW}{w:World}(h:Sat A w)(i j:Nat)(is:List Nat){t:TypeId}{B:List Nat}{b n:Nat}{kept:List Ch}(hn:B.length=n)(hi:A.σ[i]? = some (caps t B))(hj:A.σ[j]? = some (.blk b (.cells #[.int .i64 (n:Nat)] t (0,0)) true))(hnd:nodupB is=true)(hni:is.contains i=false)(hnj:is.contains j=false)(hp:picks is A.σ=some kept):Sat { A with σ:=kept++[Eng.caps t (B++[b])] } w:=by
 have:=h.exch is hnd hp (CP.refl (fun _=>False) w) (fun _ _ _ _ x=>x) [Eng.caps t (B++[b])] (by
  intro d hd
  simp only[List.mem_singleton]at hd
  subst hd
  refine⟨fun k b' hb => ?_,YR _ _, ?_⟩
  ·rcases Nat.lt_trichotomy k B.length with hk | hk | hk
   ·rw[List.getElem?_append_left hk]at hb
    exact h.at hi k b' hb
   ·subst hk
    rw[List.getElem?_append_right (Nat.le_refl _)]at hb
    simp at hb
    subst hb;subst hn
    exact h.at hj
   rw[List.getElem?_eq_none (by simp;omega)]at hb;cases hb
  ·intro b' hb'
   rw[h.size]
   rcases List.mem_append.1 hb' with hb' | hb'
   ·exact h.bnd _ (List.mem_of_getElem? hi) b' hb'
   exact h.bnd _ (List.mem_of_getElem? hj) b' (List.mem_singleton.1 hb')) (by simp) (by
  intro d hd d' hd' _ b' hb
  simp only[List.mem_singleton]at hd'
  subst hd'
  obtain⟨q,hq,hqs⟩:=OU hp d hd
  intro hb'
  rcases List.mem_append.1 hb' with hb' | hb'
  ·exact Nr h.OY (i:=i) (j:=q) (by rw[List.getElem?_map,hi];rfl) (by rw[List.getElem?_map,hqs];rfl) (fun e=>by subst e;simp[hq]at hni) rfl b' hb' hb
  exact Nr h.OY (i:=j) (j:=q) (by rw[List.getElem?_map,hj];rfl) (by rw[List.getElem?_map,hqs];rfl) (fun e=>by subst e;simp[hq]at hnj) rfl b' (List.mem_singleton.1 hb') hb)
 rw[h.size]at this
 exact this
section
variable {P:Program}{N:Nat}{env:Env}{ds:List Deferred}{A:AW}{s:List Kt}{Q:Exit→Act→World→Prop}{c:Code}{x:Exit}
theorem Za9(t:TypeId)(K:G P N env ds { A with σ:=A.σ++[caps t []] } c s Q):G P N env ds A c s Q :=
 fun a w hst=>K a w ⟨hst.sz,hst.df,hst.kn,hst.mem.more _ (fun i b h=>by simp at h) (YR _ _) (fun b h=>by cases h)⟩
theorem ZcG(i j:Nat)(is:List Nat)(t:TypeId)(B:List Nat)(b n:Nat)(kept:List Ch)(hn:B.length=n)(K:E P N env ds { A with σ:=kept++[caps t (B++[b])] } x s Q)
   (hi:A.σ[i]? = some (caps t B):=by rfl) (hj:A.σ[j]? = some (.blk b (.cells #[.int .i64 (n:Nat)] t (0,0)) true):=by rfl) (hnd:nodupB is=true:=by rfl) (hni:is.contains i=false:=by rfl) (hnj:is.contains j=false:=by rfl) (hp:picks is A.σ=some kept:=by rfl):E P N env ds A x s Q :=
 fun a' w hst=>K a' w ⟨hst.sz,hst.df,hst.kn,hst.mem.caps i j is hn hi hj hnd hni hnj hp⟩
end
end Go.Proofs.YtnjhekfgmbpmlaaDoor.Eng
namespace Go.Proofs.YtnjhekfgmbpmlaaDoor.Ad
open Go Go.Proofs.YtnjhekfgmbpmlaaDoor.Eng Go.Proofs.YtnjhekfgmbpmlaaDoor.Mem Go.Proofs.YtnjhekfgmbpmlaaDoor.Ly
set_option linter.unusedSimpArgs false
set_option linter.unusedVariables false
set_option maxRecDepth 100000
section
variable (n10 z:Nat)(n17 n3:Nat)(c:Aj)(p n75:Nat)(n83 n91:Nat)(n35 n43:Nat)(n51 n59:Nat)(n67 n99:Nat)(ax19:Option Addr)(B1 B2 B3:List Nat)(cp20:Nat)(ax12:Option Addr)(cp13:Nat)(ax5:Option Addr)(cp6:Nat)(aL3:Option Addr)(cL3:Nat)(aL2:Option Addr)(cL2:Nat)(aL1:Option Addr)(cL1 b31:Nat)(cR b39:Nat)(b47 b55:Nat)(b63 b71:Nat)(b79 b87:Nat)(b95 k:Nat)
abbrev ZM:=bk (n10+1) #[.func (.func 49) #[] #[pt (z+2),pt n10]] 71
abbrev Zch:=bk (n17+1) #[.func (.func 51) #[] #[pt (z+2),pt n17]] 71
abbrev ZE:=bk (n3+1) #[.func (.func 47) #[] #[pt (z+2),pt n3]] 71
abbrev qdvx_3:=bk (z+1) #[i6 ((CX c p).Ai.First),i6 ((CX c p).Ai.Second)] 34
abbrev qdvx_4:=bk (z+1) #[i6 ((Dx c p).Ai.First),i6 ((Dx c p).Ai.Second)] 34
abbrev qdvx_5:=bk (z+1) #[i6 ((Em c p).Ai.First),i6 ((Em c p).Ai.Second)] 34
abbrev qdvx_6:=bk (z+1) #[i6 ((G8 c).Ai.First),i6 ((G8 c).Ai.Second)] 34
abbrev qdvx_7:=bk (z+1) #[i6 ((whole2 c).Ai.First),i6 ((whole2 c).Ai.Second)] 34
abbrev qdvx_8:=bk (z+1) #[i6 ((Gm c).Ai.First),i6 ((Gm c).Ai.Second)] 34
abbrev qdvx_9:=bk (z+1) #[i6 ((Gn c).Ai.First),i6 ((Gn c).Ai.Second)] 34
abbrev Zdm:=bk (z+1) #[i6 ((FV c).Ai.First),i6 ((FV c).Ai.Second)] 34
abbrev Zd8:=bk (z+1) #[i6 ((IQ c).Ai.First),i6 ((IQ c).Ai.Second)] 34
abbrev EI:=bk n17 #[.func (.func 53) #[] #[pt (z+2)]] 71
abbrev Eo:=bk (z+1) #[i6 0,i6 0] 34
abbrev Yf:=bk n75 (Ar.arr (CX c p)) 73
abbrev Yt:=bk n83 (Ar.arr (Dx c p)) 73
abbrev Y6:=bk n91 (Ar.arr (Em c p)) 73
abbrev Ym:=bk n35 (Ar.arr (G8 c)) 73
abbrev Yr:=bk n43 (Ar.arr (whole2 c)) 73
abbrev XW:=bk n51 (Ar.arr (Gm c)) 73
abbrev YD:=bk n59 (Ar.arr (Gn c)) 73
abbrev Yi:=bk n67 (Ar.arr (FV c)) 73
abbrev Y9:=bk n99 (Ar.arr (IQ c)) 73
abbrev D7:=bk (z+2) (Aj.arr c) 26
abbrev Dv:=bk z (Aj.arr c) 26
abbrev ZaC:=BJ z 71 1 (fun v:Value=>[v]) (.slice ax19 ((Hz (z+2)++clo 47 (z+2) B1++clo 49 (z+2) B2++clo 51 (z+2) B3++[(.func (.func 51) #[] #[pt (z+2),pt n17]:Value)]).length) cp20) (Hz (z+2)++clo 47 (z+2) B1++clo 49 (z+2) B2++clo 51 (z+2) B3++[(.func (.func 51) #[] #[pt (z+2),pt n17]:Value)])
abbrev Yy:=BJ z 71 1 (fun v:Value=>[v]) (.slice ax12 ((Hz (z+2)++clo 47 (z+2) B1++clo 49 (z+2) B2++[(.func (.func 49) #[] #[pt (z+2),pt n10]:Value)]).length) cp13) (Hz (z+2)++clo 47 (z+2) B1++clo 49 (z+2) B2++[(.func (.func 49) #[] #[pt (z+2),pt n10]:Value)])
abbrev Yk:=BJ z 71 1 (fun v:Value=>[v]) (.slice ax5 ((Hz (z+2)++clo 47 (z+2) B1++[(.func (.func 47) #[] #[pt (z+2),pt n3]:Value)]).length) cp6) (Hz (z+2)++clo 47 (z+2) B1++[(.func (.func 47) #[] #[pt (z+2),pt n3]:Value)])
abbrev U5:=BJ z 71 1 (fun v:Value=>[v]) (.slice aL3 ((Hz (z+2)++clo 47 (z+2) B1++clo 49 (z+2) B2++clo 51 (z+2) B3).length) cL3) (Hz (z+2)++clo 47 (z+2) B1++clo 49 (z+2) B2++clo 51 (z+2) B3)
abbrev Tf:=BJ z 71 1 (fun v:Value=>[v]) (.slice aL2 ((Hz (z+2)++clo 47 (z+2) B1++clo 49 (z+2) B2).length) cL2) (Hz (z+2)++clo 47 (z+2) B1++clo 49 (z+2) B2)
abbrev Qj:=BJ z 71 1 (fun v:Value=>[v]) (.slice aL1 ((Hz (z+2)++clo 47 (z+2) B1).length) cL1) (Hz (z+2)++clo 47 (z+2) B1)
abbrev U1:=BJ z 71 1 (fun v:Value=>[v]) (.slice (some ⟨b31,0,none⟩) ((asks (z+2) B1 B2 B3).length) cR) (asks (z+2) B1 B2 B3)
abbrev Us:=BJ z 71 1 (fun v:Value=>[v]) (.slice (some ⟨b39,0,none⟩) ((asks (z+2) B1 B2 B3).length) cR) (asks (z+2) B1 B2 B3)
abbrev Uy:=BJ z 71 1 (fun v:Value=>[v]) (.slice (some ⟨b47,0,none⟩) ((asks (z+2) B1 B2 B3).length) cR) (asks (z+2) B1 B2 B3)
abbrev Ui:=BJ z 71 1 (fun v:Value=>[v]) (.slice (some ⟨b55,0,none⟩) ((asks (z+2) B1 B2 B3).length) cR) (asks (z+2) B1 B2 B3)
abbrev U3:=BJ z 71 1 (fun v:Value=>[v]) (.slice (some ⟨b63,0,none⟩) ((asks (z+2) B1 B2 B3).length) cR) (asks (z+2) B1 B2 B3)
abbrev Uu:=BJ z 71 1 (fun v:Value=>[v]) (.slice (some ⟨b71,0,none⟩) ((asks (z+2) B1 B2 B3).length) cR) (asks (z+2) B1 B2 B3)
abbrev Um:=BJ z 71 1 (fun v:Value=>[v]) (.slice (some ⟨b79,0,none⟩) ((asks (z+2) B1 B2 B3).length) cR) (asks (z+2) B1 B2 B3)
abbrev Ux:=BJ z 71 1 (fun v:Value=>[v]) (.slice (some ⟨b87,0,none⟩) ((asks (z+2) B1 B2 B3).length) cR) (asks (z+2) B1 B2 B3)
abbrev Ud:=BJ z 71 1 (fun v:Value=>[v]) (.slice (some ⟨b95,0,none⟩) ((asks (z+2) B1 B2 B3).length) cR) (asks (z+2) B1 B2 B3)
abbrev ZaK:DJ:=(3,.slice ax19 ((Hz (z+2)++clo 47 (z+2) B1++clo 49 (z+2) B2++clo 51 (z+2) B3++[(.func (.func 51) #[] #[pt (z+2),pt n17]:Value)]).length) cp20)
abbrev XO:DJ:=(3,.slice ax12 ((Hz (z+2)++clo 47 (z+2) B1++clo 49 (z+2) B2++[(.func (.func 49) #[] #[pt (z+2),pt n10]:Value)]).length) cp13)
abbrev Y7:DJ:=(3,.slice ax5 ((Hz (z+2)++clo 47 (z+2) B1++[(.func (.func 47) #[] #[pt (z+2),pt n3]:Value)]).length) cp6)
abbrev VT:DJ:=(8,.slice (some ⟨b31,0,none⟩) ((asks (z+2) B1 B2 B3).length) cR)
abbrev WA:DJ:=(8,.slice (some ⟨b39,0,none⟩) ((asks (z+2) B1 B2 B3).length) cR)
abbrev VE:DJ:=(8,.slice (some ⟨b47,0,none⟩) ((asks (z+2) B1 B2 B3).length) cR)
abbrev VD:DJ:=(8,.slice (some ⟨b55,0,none⟩) ((asks (z+2) B1 B2 B3).length) cR)
abbrev Wj:DJ:=(8,.slice (some ⟨b63,0,none⟩) ((asks (z+2) B1 B2 B3).length) cR)
abbrev VP:DJ:=(8,.slice (some ⟨b71,0,none⟩) ((asks (z+2) B1 B2 B3).length) cR)
abbrev Wl:DJ:=(8,.slice (some ⟨b79,0,none⟩) ((asks (z+2) B1 B2 B3).length) cR)
abbrev We:DJ:=(8,.slice (some ⟨b87,0,none⟩) ((asks (z+2) B1 B2 B3).length) cR)
abbrev V6:DJ:=(8,.slice (some ⟨b95,0,none⟩) ((asks (z+2) B1 B2 B3).length) cR)
abbrev EJ:=(9,i6 (((asks (z+2) B1 B2 B3).length:Nat):Int))
abbrev NQ:=(15,Ac c.Aa.xs.length)
abbrev P8:=(26,Ac c.Ag.xs.length)
abbrev QH:=(37,Ac c.Aq.xs.length)
abbrev Dk:=(3,pt (z+1))
abbrev I7:=(1,pt (z+2))
abbrev JX:=(10,i6 ((k+1:Nat):Int))
end
theorem ZcU(w:World)(hL:JM w)(c:Aj)(hc:Aj.ok Any w c)(hS:c.Aa.xs.length+c.Ag.xs.length+c.Aq.xs.length≤15000000000000):Calls Tryd.prog 9 #[.agg (Aj.arr c)] w fun e w'=>e = .returned (.tuple #[.int .i64 (CO c).e,.agg #[.int .i64 (CO c).Ai.First,.int .i64 (CO c).Ai.Second]])∧CP (fun _=>False) w w':=by
 obtain⟨z,hz⟩:∃ z,z=w.heap.size:=⟨_,rfl⟩
 refine CE (args:=[.agg (Aj.arr c)]) 25 ⟨w,z,[(Ak w)]⟩ Tryd.func9 rfl (by kernel_rfl) (by kernel_rfl) (Ep hz) ?_
 have hpl:=hc.Aa.1.len;have hpc:=hc.Aq.1.len;have hpch:=hc.Ag.1.len
 refine DC [0] [(0,.agg (Aj.arr c))] ?_
 refine q_c 7 1 [] [[o0,o0,o0],[(an 7 1)]] [Qb z,Qb z,Qb z,Qb z,Qb z,Qb z,Qb z] [(Dk z),(7,.agg (Aj.arr c))] ⟨w,z+2,[(Ak w),(Dv z c),(Eo z)]⟩ rfl ⟨rfl,rfl,rfl,rfl,rfl,rfl,rfl,Ae⟩ ?_
 refine l_call [] [] 28 #[.agg (Aj.arr c)] (some 8) Ae ?_
 intro w1 hw1
 refine CE (args:=[.agg (Aj.arr c)]) 50 ⟨w,z+2,[(Ak w),(Dv z c),(Eo z)]⟩ Tryd.func28 rfl (by kernel_rfl) (by kernel_rfl) hw1 ?_
 refine q_c 14 0 [] [[o0,o0],[o0,o0,o0,o0,o0,o0,o0],[o0,(a1 3),o0,o0]] [Qb (z+2)] [(I7 z),(3,.slice (some ⟨z+3,0,none⟩) 5 5),(NQ c),(16,i6 0)] ⟨w,z+4,[(Ak w),(Dv z c),(Eo z),(D7 z c),(bk (z+3) #[.func (.func 40) #[] #[pt (z+2)],.func (.func 43) #[] #[pt (z+2)],.func (.func 44) #[] #[pt (z+2)],.func (.func 45) #[] #[pt (z+2)],.func (.func 46) #[] #[pt (z+2)]] 71)]⟩ rfl ⟨rfl,Ae⟩ ?_
 refine g_blkrow 4 (z+3) z 71 1 (fun v:Value=>[v]) (Hz (z+2)) #[.func (.func 40) #[] #[pt (z+2)],.func (.func 43) #[] #[pt (z+2)],.func (.func 44) #[] #[pt (z+2)],.func (.func 45) #[] #[pt (z+2)],.func (.func 46) #[] #[pt (z+2)]] (by omega) (?_:G _ _ _ _ ⟨w,z+4,[(Ak w),(Dv z c),(Eo z),(D7 z c),(BJ z 71 1 (fun v:Value=>[v]) (.slice (some ⟨z+3,0,none⟩) 5 5) (Hz (z+2)))]⟩ _ _ _)
 refine Za9 3 ?_
 refine Di (fun m a w'=>∃ (n3:Nat) (p0:Nat) (B1:List Nat) (aL1:Option Addr) (cL1:Nat),m=c.Aa.xs.length - p0∧z+4≤n3∧(p0≤c.Aa.xs.length)∧(B1.length=p0)∧St 50 [(I7 z),(3,.slice aL1 ((Hz (z+2)++clo 47 (z+2) B1).length) cL1),(NQ c),(16,Ac p0)] [] ⟨w,n3,[(Ak w),(Dv z c),(Eo z),(D7 z c),(Qj z B1 aL1 cL1),(caps 3 B1)]⟩ a w') (c.Aa.xs.length - 0) ?_ ?_
 ·intro a w' hs;exact⟨(z+4),0,([]),(some ⟨z+3,0,none⟩),5,rfl,Nat.le_refl _,Nat.zero_le _,rfl,(by(try dsimp only[Eo,D7,Dv,Qj,NQ,Dk,I7]at hs ⊢);rw[show clo 47 (z+2) []=[]from rfl,List.append_nil];exact hs)⟩
 rintro m a w' ⟨n3,p0,B1,aL1,cL1,rfl,hn2,hkp0,hB1,hs⟩
 refine(?_:G Tryd.prog 50 [(I7 z),(3,.slice aL1 ((Hz (z+2)++clo 47 (z+2) B1).length) cL1),(NQ c),(16,Ac p0)] [] ⟨w,n3,[(Ak w),(Dv z c),(Eo z),(D7 z c),(Qj z B1 aL1 cL1),(caps 3 B1)]⟩ _ _ _) a w' hs
 clear hs a w'
 have hxl1:(Hz (z+2)++clo 47 (z+2) B1).length=5+p0:=by simp only[List.length_append,Ld,hB1];rfl
 refine Ce ?_
 by_cases h4:(p0:Int)<(c.Aa.xs.length:Int)
 ·refine q_c 14 3 [1] [[oT],[o0,o0,(a1 6)],[o0,o0,o0]] [BT ((p0:Int)<(c.Aa.xs.length:Int)),Qb n3] [(I7 z),(NQ c),(16,Ac p0),(19,.slice aL1 ((Hz (z+2)++clo 47 (z+2) B1).length) cL1),(21,.slice (some ⟨n3+1,0,none⟩) 1 1)] ⟨w,n3+2,[(Ak w),(Dv z c),(Eo z),(D7 z c),(Qj z B1 aL1 cL1),(caps 3 B1),(bk n3 #[(Ac p0)] 3),(ZE z n3)]⟩ rfl ⟨bt,rfl,Ae⟩ ?_
  refine QL z 4 7 (Hz (z+2)++clo 47 (z+2) B1) [(.func (.func 47) #[] #[pt (z+2),pt n3]:Value)] (fun v:Value=>[v]) 71 1 8 (.slice aL1 ((Hz (z+2)++clo 47 (z+2) B1).length) cL1) (n3+1) 1 1 #[.func (.func 47) #[] #[pt (z+2),pt n3]] 71 (0,0) true (some 22) (by simp only[List.length_cons,List.length_nil];omega) (by simp only[List.length_cons,List.length_nil];omega) (show z≤n3+2 by omega) (fun ax5 cp6 n7 (hn8:n3+2≤n7) => ?_)
  refine BP 5 0 [] [[o0],[(ov (i6 ((p0+1:Nat):Int))),o0]] [Wr ((p0:Int)+1) (((p0+1:Nat):Int))] [(I7 z),(NQ c),(16,i6 ((p0+1:Nat):Int)),(Y7 z n3 B1 ax5 cp6)] rfl ⟨BQ,Ae⟩ ?_
  refine ZcG 5 6 [0,1,2,3,4,7] 3 B1 n3 p0 [(Ak w),(Dv z c),(Eo z),(D7 z c),(Yk z n3 B1 ax5 cp6),(ZE z n3)] hB1 ?_
  refine Cb [0,1,2,3,4,6] [(Ak w),(Dv z c),(Eo z),(D7 z c),(Yk z n3 B1 ax5 cp6),(caps 3 (B1++[n3]))] rfl rfl ?_
  refine BK [1,3,15,16] [(I7 z),(Y7 z n3 B1 ax5 cp6),(NQ c),(16,i6 ((p0+1:Nat):Int))] ?_
  refine BD (fun a w' hs=>⟨c.Aa.xs.length - (p0+1),by omega,n7,(p0+1),(B1++[n3]),ax5,cp6,rfl,by omega,by omega,(by rw[List.length_append,hB1];rfl),(by(try dsimp only[ZE,Eo,D7,Dv,Yk,Qj,Y7,NQ,I7]at hs ⊢);rw[Zf,←List.append_assoc];exact hs)⟩)
 refine Az 16 0 [0] [[oF],[o0,(a1 3),o0,o0]] [BF ((p0:Int)<(c.Aa.xs.length:Int)),Qb (z+2)] [(I7 z),(3,.slice aL1 ((Hz (z+2)++clo 47 (z+2) B1).length) cL1),(P8 c),(27,i6 0)] rfl ⟨bf,rfl,Ae⟩ ?_
 refine Za9 3 ?_
 refine Di (fun m a w'=>∃ (n10:Nat) (h0:Nat) (B2:List Nat) (aL2:Option Addr) (cL2:Nat),m=c.Ag.xs.length - h0∧n3≤n10∧(h0≤c.Ag.xs.length)∧(B2.length=h0)∧St 50 [(I7 z),(3,.slice aL2 ((Hz (z+2)++clo 47 (z+2) B1++clo 49 (z+2) B2).length) cL2),(P8 c),(27,Ac h0)] [] ⟨w,n10,[(Ak w),(Dv z c),(Eo z),(D7 z c),(Tf z B1 B2 aL2 cL2),(caps 3 B1),(caps 3 B2)]⟩ a w') (c.Ag.xs.length - 0) ?_ ?_
 ·intro a w' hs;exact⟨n3,0,([]),aL1,cL1,rfl,Nat.le_refl _,Nat.zero_le _,rfl,(by(try dsimp only[ZE,Eo,D7,Dv,Yk,Tf,Qj,Y7,NQ,P8,I7]at hs ⊢);rw[show clo 49 (z+2) []=[]from rfl,List.append_nil];exact hs)⟩
 rintro m a w' ⟨n10,h0,B2,aL2,cL2,rfl,hn9,hkh0,hB2,hs⟩
 refine(?_:G Tryd.prog 50 [(I7 z),(3,.slice aL2 ((Hz (z+2)++clo 47 (z+2) B1++clo 49 (z+2) B2).length) cL2),(P8 c),(27,Ac h0)] [] ⟨w,n10,[(Ak w),(Dv z c),(Eo z),(D7 z c),(Tf z B1 B2 aL2 cL2),(caps 3 B1),(caps 3 B2)]⟩ _ _ _) a w' hs
 clear hs a w'
 have hxl2:(Hz (z+2)++clo 47 (z+2) B1++clo 49 (z+2) B2).length=5+B1.length+h0:=by simp only[List.length_append,Ld,hB2];rfl
 refine Ce ?_
 by_cases h11:(h0:Int)<(c.Ag.xs.length:Int)
 ·refine q_c 14 3 [1] [[oT],[o0,o0,(a1 7)],[o0,o0,o0]] [BT ((h0:Int)<(c.Ag.xs.length:Int)),Qb n10] [(I7 z),(P8 c),(27,Ac h0),(30,.slice aL2 ((Hz (z+2)++clo 47 (z+2) B1++clo 49 (z+2) B2).length) cL2),(32,.slice (some ⟨n10+1,0,none⟩) 1 1)] ⟨w,n10+2,[(Ak w),(Dv z c),(Eo z),(D7 z c),(Tf z B1 B2 aL2 cL2),(caps 3 B1),(caps 3 B2),(bk n10 #[(Ac h0)] 3),(ZM n10 z)]⟩ rfl ⟨bt,rfl,Ae⟩ ?_
  refine QL z 4 8 (Hz (z+2)++clo 47 (z+2) B1++clo 49 (z+2) B2) [(.func (.func 49) #[] #[pt (z+2),pt n10]:Value)] (fun v:Value=>[v]) 71 1 8 (.slice aL2 ((Hz (z+2)++clo 47 (z+2) B1++clo 49 (z+2) B2).length) cL2) (n10+1) 1 1 #[.func (.func 49) #[] #[pt (z+2),pt n10]] 71 (0,0) true (some 33) (by simp only[List.length_cons,List.length_nil];omega) (by simp only[List.length_cons,List.length_nil];omega) (show z≤n10+2 by omega) (fun ax12 cp13 n14 (hn15:n10+2≤n14) => ?_)
  refine BP 5 0 [] [[o0],[(ov (i6 ((h0+1:Nat):Int))),o0]] [Wr ((h0:Int)+1) (((h0+1:Nat):Int))] [(I7 z),(P8 c),(27,i6 ((h0+1:Nat):Int)),(XO n10 z B1 B2 ax12 cp13)] rfl ⟨BQ,Ae⟩ ?_
  refine ZcG 6 7 [0,1,2,3,4,5,8] 3 B2 n10 h0 [(Ak w),(Dv z c),(Eo z),(D7 z c),(Yy n10 z B1 B2 ax12 cp13),(caps 3 B1),(ZM n10 z)] hB2 ?_
  refine Cb [0,1,2,3,4,5,7] [(Ak w),(Dv z c),(Eo z),(D7 z c),(Yy n10 z B1 B2 ax12 cp13),(caps 3 B1),(caps 3 (B2++[n10]))] rfl rfl ?_
  refine BK [1,3,26,27] [(I7 z),(XO n10 z B1 B2 ax12 cp13),(P8 c),(27,i6 ((h0+1:Nat):Int))] ?_
  refine BD (fun a w' hs=>⟨c.Ag.xs.length - (h0+1),by omega,n14,(h0+1),(B2++[n10]),ax12,cp13,rfl,by omega,by omega,(by rw[List.length_append,hB2];rfl),(by(try dsimp only[ZM,Eo,D7,Dv,Yy,Tf,Qj,XO,NQ,P8,I7]at hs ⊢);rw[Zf,←List.append_assoc];exact hs)⟩)
 refine Az 16 0 [0] [[oF],[o0,(a1 3),o0,o0]] [BF ((h0:Int)<(c.Ag.xs.length:Int)),Qb (z+2)] [(I7 z),(3,.slice aL2 ((Hz (z+2)++clo 47 (z+2) B1++clo 49 (z+2) B2).length) cL2),(QH c),(38,i6 0)] rfl ⟨bf,rfl,Ae⟩ ?_
 refine Za9 3 ?_
 refine Di (fun m a w'=>∃ (n17:Nat) (k0:Nat) (B3:List Nat) (aL3:Option Addr) (cL3:Nat),m=c.Aq.xs.length - k0∧n10≤n17∧(k0≤c.Aq.xs.length)∧(B3.length=k0)∧St 50 [(I7 z),(3,.slice aL3 ((Hz (z+2)++clo 47 (z+2) B1++clo 49 (z+2) B2++clo 51 (z+2) B3).length) cL3),(QH c),(38,Ac k0)] [] ⟨w,n17,[(Ak w),(Dv z c),(Eo z),(D7 z c),(U5 z B1 B2 B3 aL3 cL3),(caps 3 B1),(caps 3 B2),(caps 3 B3)]⟩ a w') (c.Aq.xs.length - 0) ?_ ?_
 ·intro a w' hs;exact⟨n10,0,([]),aL2,cL2,rfl,Nat.le_refl _,Nat.zero_le _,rfl,(by(try dsimp only[ZM,Eo,D7,Dv,Yy,U5,Tf,Qj,XO,NQ,P8,QH,I7]at hs ⊢);rw[show clo 51 (z+2) []=[]from rfl,List.append_nil];exact hs)⟩
 rintro m a w' ⟨n17,k0,B3,aL3,cL3,rfl,hn16,hkk0,hB3,hs⟩
 refine(?_:G Tryd.prog 50 [(I7 z),(3,.slice aL3 ((Hz (z+2)++clo 47 (z+2) B1++clo 49 (z+2) B2++clo 51 (z+2) B3).length) cL3),(QH c),(38,Ac k0)] [] ⟨w,n17,[(Ak w),(Dv z c),(Eo z),(D7 z c),(U5 z B1 B2 B3 aL3 cL3),(caps 3 B1),(caps 3 B2),(caps 3 B3)]⟩ _ _ _) a w' hs
 clear hs a w'
 have hxl3:(Hz (z+2)++clo 47 (z+2) B1++clo 49 (z+2) B2++clo 51 (z+2) B3).length=5+B1.length+B2.length+k0:=by simp only[List.length_append,Ld,hB3];rfl
 refine Ce ?_
 by_cases h18:(k0:Int)<(c.Aq.xs.length:Int)
 ·refine q_c 14 3 [1] [[oT],[o0,o0,(a1 8)],[o0,o0,o0]] [BT ((k0:Int)<(c.Aq.xs.length:Int)),Qb n17] [(I7 z),(QH c),(38,Ac k0),(41,.slice aL3 ((Hz (z+2)++clo 47 (z+2) B1++clo 49 (z+2) B2++clo 51 (z+2) B3).length) cL3),(43,.slice (some ⟨n17+1,0,none⟩) 1 1)] ⟨w,n17+2,[(Ak w),(Dv z c),(Eo z),(D7 z c),(U5 z B1 B2 B3 aL3 cL3),(caps 3 B1),(caps 3 B2),(caps 3 B3),(bk n17 #[(Ac k0)] 3),(Zch z n17)]⟩ rfl ⟨bt,rfl,Ae⟩ ?_
  refine QL z 4 9 (Hz (z+2)++clo 47 (z+2) B1++clo 49 (z+2) B2++clo 51 (z+2) B3) [(.func (.func 51) #[] #[pt (z+2),pt n17]:Value)] (fun v:Value=>[v]) 71 1 8 (.slice aL3 ((Hz (z+2)++clo 47 (z+2) B1++clo 49 (z+2) B2++clo 51 (z+2) B3).length) cL3) (n17+1) 1 1 #[.func (.func 51) #[] #[pt (z+2),pt n17]] 71 (0,0) true (some 44) (by simp only[List.length_cons,List.length_nil];omega) (by simp only[List.length_cons,List.length_nil];omega) (show z≤n17+2 by omega) (fun ax19 cp20 n21 (hn22:n17+2≤n21) => ?_)
  refine BP 5 0 [] [[o0],[(ov (i6 ((k0+1:Nat):Int))),o0]] [Wr ((k0:Int)+1) (((k0+1:Nat):Int))] [(I7 z),(QH c),(38,i6 ((k0+1:Nat):Int)),(ZaK z n17 ax19 B1 B2 B3 cp20)] rfl ⟨BQ,Ae⟩ ?_
  refine ZcG 7 8 [0,1,2,3,4,5,6,9] 3 B3 n17 k0 [(Ak w),(Dv z c),(Eo z),(D7 z c),(ZaC z n17 ax19 B1 B2 B3 cp20),(caps 3 B1),(caps 3 B2),(Zch z n17)] hB3 ?_
  refine Cb [0,1,2,3,4,5,6,8] [(Ak w),(Dv z c),(Eo z),(D7 z c),(ZaC z n17 ax19 B1 B2 B3 cp20),(caps 3 B1),(caps 3 B2),(caps 3 (B3++[n17]))] rfl rfl ?_
  refine BK [1,3,37,38] [(I7 z),(ZaK z n17 ax19 B1 B2 B3 cp20),(QH c),(38,i6 ((k0+1:Nat):Int))] ?_
  refine BD (fun a w' hs=>⟨c.Aq.xs.length - (k0+1),by omega,n21,(k0+1),(B3++[n17]),ax19,cp20,rfl,by omega,by omega,(by rw[List.length_append,hB3];rfl),(by(try dsimp only[Zch,Eo,D7,Dv,ZaC,U5,Tf,Qj,ZaK,NQ,P8,QH,I7]at hs ⊢);rw[Zf,←List.append_assoc];exact hs)⟩)
 refine q_c 12 3 [0] [[oF],[o0,o0,o0]] [BF ((k0:Int)<(c.Aq.xs.length:Int))] [(46,.slice aL3 ((Hz (z+2)++clo 47 (z+2) B1++clo 49 (z+2) B2++clo 51 (z+2) B3).length) cL3),(48,.slice (some ⟨n17,0,none⟩) 1 1)] ⟨w,n17+1,[(Ak w),(Dv z c),(Eo z),(D7 z c),(U5 z B1 B2 B3 aL3 cL3),(caps 3 B1),(caps 3 B2),(caps 3 B3),(EI z n17)]⟩ rfl ⟨bf,Ae⟩ ?_
 refine QL z 4 8 (Hz (z+2)++clo 47 (z+2) B1++clo 49 (z+2) B2++clo 51 (z+2) B3) [(.func (.func 53) #[] #[pt (z+2)]:Value)] (fun v:Value=>[v]) 71 1 8 (.slice aL3 ((Hz (z+2)++clo 47 (z+2) B1++clo 49 (z+2) B2++clo 51 (z+2) B3).length) cL3) n17 1 1 #[.func (.func 53) #[] #[pt (z+2)]] 71 (0,0) true (some 49) (by simp only[List.length_cons,List.length_nil];omega) (by simp only[List.length_cons,List.length_nil];omega) (show z≤n17+1 by omega) (fun ax23 cp24 n25 (hn26:n17+1≤n25) => ?_)
 refine BP 3 0 [] [[o0]] [] [(2,.slice ax23 ((Hz (z+2)++clo 47 (z+2) B1++clo 49 (z+2) B2++clo 51 (z+2) B3++[(.func (.func 53) #[] #[pt (z+2)]:Value)]).length) cp24)] rfl Ae ?_
 refine AA [] [] (.slice ax23 ((Hz (z+2)++clo 47 (z+2) B1++clo 49 (z+2) B2++clo 51 (z+2) B3++[(.func (.func 53) #[] #[pt (z+2)]:Value)]).length) cp24) Ae ?_
 intro w27 hw27
 refine⟨_,_,rfl,hw27, ?_⟩
 refine BP 3 0 [] [[o0,o0]] [] [(Dk z),(8,.slice ax23 ((Hz (z+2)++clo 47 (z+2) B1++clo 49 (z+2) B2++clo 51 (z+2) B3++[(.func (.func 53) #[] #[pt (z+2)]:Value)]).length) cp24),(9,i6 (((Hz (z+2)++clo 47 (z+2) B1++clo 49 (z+2) B2++clo 51 (z+2) B3++[(.func (.func 53) #[] #[pt (z+2)]:Value)]).length:Nat):Int)),(10,i6 0)] rfl Ae ?_
 refine Di (fun m a w'=>∃ (n29:Nat) (k:Nat) (aR:Option Addr) (cR:Nat),m=(asks (z+2) B1 B2 B3).length - k∧n25≤n29∧(k≤(asks (z+2) B1 B2 B3).length)∧(∀ i,i<k→gd (answers c) i=Bg)∧St 25 [(Dk z),(8,.slice aR ((asks (z+2) B1 B2 B3).length) cR),(EJ z B1 B2 B3),(10,Ac k)] [] ⟨w,n29,[(Ak w),(Dv z c),(Eo z),(D7 z c),(BJ z 71 1 (fun v:Value=>[v]) (.slice aR ((asks (z+2) B1 B2 B3).length) cR) (asks (z+2) B1 B2 B3)),(caps 3 B1),(caps 3 B2),(caps 3 B3),(EI z n17)]⟩ a w') ((asks (z+2) B1 B2 B3).length - 0) ?_ ?_
 ·intro a w' hs;exact⟨n25,0,ax23,cp24,rfl,Nat.le_refl _,Nat.zero_le _,fun i hi=>absurd hi (Nat.not_lt_zero i),hs⟩
 rintro m a w' ⟨n29,k,aR,cR,rfl,hn28,hkk,hf,hs⟩
 refine(?_:G Tryd.prog 25 [(Dk z),(8,.slice aR ((asks (z+2) B1 B2 B3).length) cR),(EJ z B1 B2 B3),(10,Ac k)] [] ⟨w,n29,[(Ak w),(Dv z c),(Eo z),(D7 z c),(BJ z 71 1 (fun v:Value=>[v]) (.slice aR ((asks (z+2) B1 B2 B3).length) cR) (asks (z+2) B1 B2 B3)),(caps 3 B1),(caps 3 B2),(caps 3 B3),(EI z n17)]⟩ _ _ _) a w' hs
 clear hs a w'
 have hB1:B1.length=c.Aa.xs.length:=by omega
 have hB2:B2.length=c.Ag.xs.length:=by omega
 have hB3:B3.length=c.Aq.xs.length:=by omega
 have htot:(asks (z+2) B1 B2 B3).length=_:=Zc3
 refine Ce ?_
 by_cases h30:(k:Int)<(((asks (z+2) B1 B2 B3).length:Nat):Int)
 ·refine Az 10 0 [1] [[oT]] [BT ((k:Int)<(((asks (z+2) B1 B2 B3).length:Nat):Int))] [(Dk z),(8,.slice aR ((asks (z+2) B1 B2 B3).length) cR),(EJ z B1 B2 B3),(10,Ac k),(11,.bool true)] rfl ⟨bt,Ae⟩ ?_
  rcases kinds (c:=c) (bc:=z+2) hB1 hB2 hB3 (k:=k) (by omega)with⟨hk0,hv,ha⟩ | ⟨hk0,hv,ha⟩ | ⟨hk0,hv,ha⟩ | ⟨hk0,hv,ha⟩ | ⟨hk0,hv,ha⟩ | ⟨p,b,hk0,hp,hb,hv,ha⟩ | ⟨p,b,hk0,hp,hb,hv,ha⟩ | ⟨p,b,hk0,hp,hb,hv,ha⟩ | ⟨hk0,hv,ha⟩
  ·refine KI (base:=z) (e:=71) (sz:=1) (cells:=(fun v:Value=>[v])) (a:=aR) (n:=((asks (z+2) B1 B2 B3).length)) (cap:=cR) (xs:=(asks (z+2) B1 B2 B3)) 4 (by omega) (fun b31 hg32 hb33 => ?_)
   subst hg32
   refine Az 5 1 [] [[(oi k),(oa [.via 4 (.func (.func 40) #[] #[pt (z+2)])]),o0],[o0]] [Ci k,k<(asks (z+2) B1 B2 B3).length,BN,∀ w',Ch.holds (U1 z B1 B2 B3 b31 cR) w'→w'.cell? ⟨b31,0+k,none⟩=some (.func (.func 40) #[] #[pt (z+2)])] [(Dk z),(VT z B1 B2 B3 b31 cR),(EJ z B1 B2 B3),(10,Ac k),(14,.func (.func 40) #[] #[pt (z+2)])] rfl ⟨rfl,(by omega),rfl,Ha (sz:=1) (j:=k) (k:=0) (fun _=>rfl) (by omega) (congrArg some hv),Ae⟩ ?_
   refine Bf 40 #[pt (z+2)] (some 15) (.agg (Ar.arr (G8 c))) (fun w34 hw34=>q1_calls w34 (hL.ext (hw34.ext rfl)) c (hc.ext (hw34.ext rfl) (fun _ h=>h)) (z+2) (NR hw34 (i:=3))) (fun n35 (hn36:n29≤n35) => ?_)
   refine EY 3 0 [] [[o0,(an 3 9)]] [Qb n35,Qb n35,Qb n35] [(Dk z),(VT z B1 B2 B3 b31 cR),(EJ z B1 B2 B3),(10,Ac k),(6,pt n35)] ⟨w,n35+1,[(Ak w),(Dv z c),(Eo z),(D7 z c),(U1 z B1 B2 B3 b31 cR),(caps 3 B1),(caps 3 B2),(caps 3 B3),(EI z n17),(Ym c n35)]⟩ rfl ⟨rfl,rfl,rfl,Ae⟩ ?_
   by_cases h37:(((G8 c).e:Int)==(0:Int)&&((((G8 c).Ai.First:Int)==(0:Int)&&(((G8 c).Ai.Second:Int)==(0:Int)&&true))&&true))=true
   ·refine Az 9 0 [0] [[(an 3 9),(oa [.via 0 (i6 0),.via 0 (i6 0),.via 0 (i6 0)]),⟨.seq true,none⟩],[(ov (i6 ((k+1:Nat):Int))),o0]] [Qb n35,Qb n35,Qb n35,Old w 0 0 (i6 0),Old w 0 1 (i6 0),Old w 0 2 (i6 0),(((G8 c).e:Int)==(0:Int)&&((((G8 c).Ai.First:Int)==(0:Int)&&(((G8 c).Ai.Second:Int)==(0:Int)&&true))&&true))=true,Wr ((k:Int)+1) (((k+1:Nat):Int))] [(Dk z),(VT z B1 B2 B3 b31 cR),(EJ z B1 B2 B3),(JX k)] rfl ⟨rfl,rfl,rfl,A7 (hL.2 0 _ rfl),A7 (hL.2 1 _ rfl),A7 (hL.2 2 _ rfl),h37,BQ,Ae⟩ ?_
    refine Cb [0,1,2,3,4,5,6,7,8] [(Ak w),(Dv z c),(Eo z),(D7 z c),(U1 z B1 B2 B3 b31 cR),(caps 3 B1),(caps 3 B2),(caps 3 B3),(EI z n17)] rfl rfl ?_
    refine BK [3,8,9,10] [(Dk z),(VT z B1 B2 B3 b31 cR),(EJ z B1 B2 B3),(JX k)] ?_
    refine BD (fun a w' hs=>⟨(asks (z+2) B1 B2 B3).length - (k+1),by omega,(n35+1),(k+1),(some ⟨b31,0,none⟩),cR,rfl,by omega,by omega,Fh hf (by rw[ha];exact GZ.1 h37),hs⟩)
   refine Az 5 0 [1] [[(an 3 9),(oa [.via 0 (i6 0),.via 0 (i6 0),.via 0 (i6 0)]),⟨.seq false,none⟩]] [Qb n35,Qb n35,Qb n35,Old w 0 0 (i6 0),Old w 0 1 (i6 0),Old w 0 2 (i6 0),(((G8 c).e:Int)==(0:Int)&&((((G8 c).Ai.First:Int)==(0:Int)&&(((G8 c).Ai.Second:Int)==(0:Int)&&true))&&true))=false] [(Dk z),(VT z B1 B2 B3 b31 cR),(EJ z B1 B2 B3),(10,Ac k),(6,pt n35),(18,.bool true)] rfl ⟨rfl,rfl,rfl,A7 (hL.2 0 _ rfl),A7 (hL.2 1 _ rfl),A7 (hL.2 2 _ rfl),(Bool.eq_false_iff.2 h37),Ae⟩ ?_
   refine Eh 5 [0,1,2,3,4,5,6,7,8,9] [(Ak w),(Dv z c),(Eo z),(D7 z c),(U1 z B1 B2 B3 b31 cR),(caps 3 B1),(caps 3 B2),(caps 3 B3),(EI z n17),(Ym c n35)] rfl rfl ?_
   refine Dj [(0,o0),(1,(a1 9)),(2,o0),(3,(an 2 9)),(4,o0)] [3,22,2] [Qb n35,Qb n35,Qb n35] (DF 5 1) [(Dk z),(22,.agg #[i6 ((G8 c).Ai.First),i6 ((G8 c).Ai.Second)]),(2,i6 ((G8 c).e))] ⟨rfl,rfl,rfl,Ae⟩ ?_
   refine BC 5 ?_
   refine BH (an 2 2) [3,2] [Qb (z+1),Qb (z+1)] [(Dk z),(2,i6 ((G8 c).e))] ⟨w,n35+1,[(Ak w),(Dv z c),(qdvx_6 z c),(D7 z c),(U1 z B1 B2 B3 b31 cR),(caps 3 B1),(caps 3 B2),(caps 3 B3),(EI z n17),(Ym c n35)]⟩ [] ⟨rfl,rfl,Ae⟩ (.inl rfl) ?_
   refine Es 6 [0,1,2,3,4,5,6,7,8,9] [(Ak w),(Dv z c),(qdvx_6 z c),(D7 z c),(U1 z B1 B2 B3 b31 cR),(caps 3 B1),(caps 3 B2),(caps 3 B3),(EI z n17),(Ym c n35)] rfl rfl ?_
   refine CU ?_
   refine BK [3,2] [(Dk z),(2,i6 ((G8 c).e))] ?_
   refine IM <| KR <| AA [.at 2,.at 2] [Qb (z+1),Qb (z+1)] (.tuple #[i6 ((G8 c).e),.agg #[i6 ((G8 c).Ai.First),i6 ((G8 c).Ai.Second)]]) ⟨rfl,rfl,Ae⟩ ?_
   intro w38 hw38
   exact⟨congrArg (fun t:Ar=>Ending.returned (.tuple #[i6 t.e,.agg #[i6 t.Ai.First,i6 t.Ai.Second]])) ((Oj (xs:=answers c) (k:=k) (by rw[Iz];omega) hf (by rw[ha];exact fun x=>h37 (GZ.2 x))).trans ha).symm,AO hw38⟩
  ·refine KI (base:=z) (e:=71) (sz:=1) (cells:=(fun v:Value=>[v])) (a:=aR) (n:=((asks (z+2) B1 B2 B3).length)) (cap:=cR) (xs:=(asks (z+2) B1 B2 B3)) 4 (by omega) (fun b39 hg40 hb41 => ?_)
   subst hg40
   refine Az 5 1 [] [[(oi k),(oa [.via 4 (.func (.func 43) #[] #[pt (z+2)])]),o0],[o0]] [Ci k,k<(asks (z+2) B1 B2 B3).length,BN,∀ w',Ch.holds (Us z B1 B2 B3 cR b39) w'→w'.cell? ⟨b39,0+k,none⟩=some (.func (.func 43) #[] #[pt (z+2)])] [(Dk z),(WA z B1 B2 B3 cR b39),(EJ z B1 B2 B3),(10,Ac k),(14,.func (.func 43) #[] #[pt (z+2)])] rfl ⟨rfl,(by omega),rfl,Ha (sz:=1) (j:=k) (k:=0) (fun _=>rfl) (by omega) (congrArg some hv),Ae⟩ ?_
   refine Bf 43 #[pt (z+2)] (some 15) (.agg (Ar.arr (whole2 c))) (fun w42 hw42=>q2_calls w42 (hL.ext (hw42.ext rfl)) c (hc.ext (hw42.ext rfl) (fun _ h=>h)) (z+2) (NR hw42 (i:=3))) (fun n43 (hn44:n29≤n43) => ?_)
   refine EY 3 0 [] [[o0,(an 3 9)]] [Qb n43,Qb n43,Qb n43] [(Dk z),(WA z B1 B2 B3 cR b39),(EJ z B1 B2 B3),(10,Ac k),(6,pt n43)] ⟨w,n43+1,[(Ak w),(Dv z c),(Eo z),(D7 z c),(Us z B1 B2 B3 cR b39),(caps 3 B1),(caps 3 B2),(caps 3 B3),(EI z n17),(Yr c n43)]⟩ rfl ⟨rfl,rfl,rfl,Ae⟩ ?_
   by_cases h45:(((whole2 c).e:Int)==(0:Int)&&((((whole2 c).Ai.First:Int)==(0:Int)&&(((whole2 c).Ai.Second:Int)==(0:Int)&&true))&&true))=true
   ·refine Az 9 0 [0] [[(an 3 9),(oa [.via 0 (i6 0),.via 0 (i6 0),.via 0 (i6 0)]),⟨.seq true,none⟩],[(ov (i6 ((k+1:Nat):Int))),o0]] [Qb n43,Qb n43,Qb n43,Old w 0 0 (i6 0),Old w 0 1 (i6 0),Old w 0 2 (i6 0),(((whole2 c).e:Int)==(0:Int)&&((((whole2 c).Ai.First:Int)==(0:Int)&&(((whole2 c).Ai.Second:Int)==(0:Int)&&true))&&true))=true,Wr ((k:Int)+1) (((k+1:Nat):Int))] [(Dk z),(WA z B1 B2 B3 cR b39),(EJ z B1 B2 B3),(JX k)] rfl ⟨rfl,rfl,rfl,A7 (hL.2 0 _ rfl),A7 (hL.2 1 _ rfl),A7 (hL.2 2 _ rfl),h45,BQ,Ae⟩ ?_
    refine Cb [0,1,2,3,4,5,6,7,8] [(Ak w),(Dv z c),(Eo z),(D7 z c),(Us z B1 B2 B3 cR b39),(caps 3 B1),(caps 3 B2),(caps 3 B3),(EI z n17)] rfl rfl ?_
    refine BK [3,8,9,10] [(Dk z),(WA z B1 B2 B3 cR b39),(EJ z B1 B2 B3),(JX k)] ?_
    refine BD (fun a w' hs=>⟨(asks (z+2) B1 B2 B3).length - (k+1),by omega,(n43+1),(k+1),(some ⟨b39,0,none⟩),cR,rfl,by omega,by omega,Fh hf (by rw[ha];exact GZ.1 h45),hs⟩)
   refine Az 5 0 [1] [[(an 3 9),(oa [.via 0 (i6 0),.via 0 (i6 0),.via 0 (i6 0)]),⟨.seq false,none⟩]] [Qb n43,Qb n43,Qb n43,Old w 0 0 (i6 0),Old w 0 1 (i6 0),Old w 0 2 (i6 0),(((whole2 c).e:Int)==(0:Int)&&((((whole2 c).Ai.First:Int)==(0:Int)&&(((whole2 c).Ai.Second:Int)==(0:Int)&&true))&&true))=false] [(Dk z),(WA z B1 B2 B3 cR b39),(EJ z B1 B2 B3),(10,Ac k),(6,pt n43),(18,.bool true)] rfl ⟨rfl,rfl,rfl,A7 (hL.2 0 _ rfl),A7 (hL.2 1 _ rfl),A7 (hL.2 2 _ rfl),(Bool.eq_false_iff.2 h45),Ae⟩ ?_
   refine Eh 5 [0,1,2,3,4,5,6,7,8,9] [(Ak w),(Dv z c),(Eo z),(D7 z c),(Us z B1 B2 B3 cR b39),(caps 3 B1),(caps 3 B2),(caps 3 B3),(EI z n17),(Yr c n43)] rfl rfl ?_
   refine Dj [(0,o0),(1,(a1 9)),(2,o0),(3,(an 2 9)),(4,o0)] [3,22,2] [Qb n43,Qb n43,Qb n43] (DF 5 1) [(Dk z),(22,.agg #[i6 ((whole2 c).Ai.First),i6 ((whole2 c).Ai.Second)]),(2,i6 ((whole2 c).e))] ⟨rfl,rfl,rfl,Ae⟩ ?_
   refine BC 5 ?_
   refine BH (an 2 2) [3,2] [Qb (z+1),Qb (z+1)] [(Dk z),(2,i6 ((whole2 c).e))] ⟨w,n43+1,[(Ak w),(Dv z c),(qdvx_7 z c),(D7 z c),(Us z B1 B2 B3 cR b39),(caps 3 B1),(caps 3 B2),(caps 3 B3),(EI z n17),(Yr c n43)]⟩ [] ⟨rfl,rfl,Ae⟩ (.inl rfl) ?_
   refine Es 6 [0,1,2,3,4,5,6,7,8,9] [(Ak w),(Dv z c),(qdvx_7 z c),(D7 z c),(Us z B1 B2 B3 cR b39),(caps 3 B1),(caps 3 B2),(caps 3 B3),(EI z n17),(Yr c n43)] rfl rfl ?_
   refine CU ?_
   refine BK [3,2] [(Dk z),(2,i6 ((whole2 c).e))] ?_
   refine IM <| KR <| AA [.at 2,.at 2] [Qb (z+1),Qb (z+1)] (.tuple #[i6 ((whole2 c).e),.agg #[i6 ((whole2 c).Ai.First),i6 ((whole2 c).Ai.Second)]]) ⟨rfl,rfl,Ae⟩ ?_
   intro w46 hw46
   exact⟨congrArg (fun t:Ar=>Ending.returned (.tuple #[i6 t.e,.agg #[i6 t.Ai.First,i6 t.Ai.Second]])) ((Oj (xs:=answers c) (k:=k) (by rw[Iz];omega) hf (by rw[ha];exact fun x=>h45 (GZ.2 x))).trans ha).symm,AO hw46⟩
  ·refine KI (base:=z) (e:=71) (sz:=1) (cells:=(fun v:Value=>[v])) (a:=aR) (n:=((asks (z+2) B1 B2 B3).length)) (cap:=cR) (xs:=(asks (z+2) B1 B2 B3)) 4 (by omega) (fun b47 hg48 hb49 => ?_)
   subst hg48
   refine Az 5 1 [] [[(oi k),(oa [.via 4 (.func (.func 44) #[] #[pt (z+2)])]),o0],[o0]] [Ci k,k<(asks (z+2) B1 B2 B3).length,BN,∀ w',Ch.holds (Uy z B1 B2 B3 cR b47) w'→w'.cell? ⟨b47,0+k,none⟩=some (.func (.func 44) #[] #[pt (z+2)])] [(Dk z),(VE z B1 B2 B3 cR b47),(EJ z B1 B2 B3),(10,Ac k),(14,.func (.func 44) #[] #[pt (z+2)])] rfl ⟨rfl,(by omega),rfl,Ha (sz:=1) (j:=k) (k:=0) (fun _=>rfl) (by omega) (congrArg some hv),Ae⟩ ?_
   refine Bf 44 #[pt (z+2)] (some 15) (.agg (Ar.arr (Gm c))) (fun w50 hw50=>q3_calls w50 (hL.ext (hw50.ext rfl)) c (hc.ext (hw50.ext rfl) (fun _ h=>h)) (z+2) (NR hw50 (i:=3))) (fun n51 (hn52:n29≤n51) => ?_)
   refine EY 3 0 [] [[o0,(an 3 9)]] [Qb n51,Qb n51,Qb n51] [(Dk z),(VE z B1 B2 B3 cR b47),(EJ z B1 B2 B3),(10,Ac k),(6,pt n51)] ⟨w,n51+1,[(Ak w),(Dv z c),(Eo z),(D7 z c),(Uy z B1 B2 B3 cR b47),(caps 3 B1),(caps 3 B2),(caps 3 B3),(EI z n17),(XW c n51)]⟩ rfl ⟨rfl,rfl,rfl,Ae⟩ ?_
   by_cases h53:(((Gm c).e:Int)==(0:Int)&&((((Gm c).Ai.First:Int)==(0:Int)&&(((Gm c).Ai.Second:Int)==(0:Int)&&true))&&true))=true
   ·refine Az 9 0 [0] [[(an 3 9),(oa [.via 0 (i6 0),.via 0 (i6 0),.via 0 (i6 0)]),⟨.seq true,none⟩],[(ov (i6 ((k+1:Nat):Int))),o0]] [Qb n51,Qb n51,Qb n51,Old w 0 0 (i6 0),Old w 0 1 (i6 0),Old w 0 2 (i6 0),(((Gm c).e:Int)==(0:Int)&&((((Gm c).Ai.First:Int)==(0:Int)&&(((Gm c).Ai.Second:Int)==(0:Int)&&true))&&true))=true,Wr ((k:Int)+1) (((k+1:Nat):Int))] [(Dk z),(VE z B1 B2 B3 cR b47),(EJ z B1 B2 B3),(JX k)] rfl ⟨rfl,rfl,rfl,A7 (hL.2 0 _ rfl),A7 (hL.2 1 _ rfl),A7 (hL.2 2 _ rfl),h53,BQ,Ae⟩ ?_
    refine Cb [0,1,2,3,4,5,6,7,8] [(Ak w),(Dv z c),(Eo z),(D7 z c),(Uy z B1 B2 B3 cR b47),(caps 3 B1),(caps 3 B2),(caps 3 B3),(EI z n17)] rfl rfl ?_
    refine BK [3,8,9,10] [(Dk z),(VE z B1 B2 B3 cR b47),(EJ z B1 B2 B3),(JX k)] ?_
    refine BD (fun a w' hs=>⟨(asks (z+2) B1 B2 B3).length - (k+1),by omega,(n51+1),(k+1),(some ⟨b47,0,none⟩),cR,rfl,by omega,by omega,Fh hf (by rw[ha];exact GZ.1 h53),hs⟩)
   refine Az 5 0 [1] [[(an 3 9),(oa [.via 0 (i6 0),.via 0 (i6 0),.via 0 (i6 0)]),⟨.seq false,none⟩]] [Qb n51,Qb n51,Qb n51,Old w 0 0 (i6 0),Old w 0 1 (i6 0),Old w 0 2 (i6 0),(((Gm c).e:Int)==(0:Int)&&((((Gm c).Ai.First:Int)==(0:Int)&&(((Gm c).Ai.Second:Int)==(0:Int)&&true))&&true))=false] [(Dk z),(VE z B1 B2 B3 cR b47),(EJ z B1 B2 B3),(10,Ac k),(6,pt n51),(18,.bool true)] rfl ⟨rfl,rfl,rfl,A7 (hL.2 0 _ rfl),A7 (hL.2 1 _ rfl),A7 (hL.2 2 _ rfl),(Bool.eq_false_iff.2 h53),Ae⟩ ?_
   refine Eh 5 [0,1,2,3,4,5,6,7,8,9] [(Ak w),(Dv z c),(Eo z),(D7 z c),(Uy z B1 B2 B3 cR b47),(caps 3 B1),(caps 3 B2),(caps 3 B3),(EI z n17),(XW c n51)] rfl rfl ?_
   refine Dj [(0,o0),(1,(a1 9)),(2,o0),(3,(an 2 9)),(4,o0)] [3,22,2] [Qb n51,Qb n51,Qb n51] (DF 5 1) [(Dk z),(22,.agg #[i6 ((Gm c).Ai.First),i6 ((Gm c).Ai.Second)]),(2,i6 ((Gm c).e))] ⟨rfl,rfl,rfl,Ae⟩ ?_
   refine BC 5 ?_
   refine BH (an 2 2) [3,2] [Qb (z+1),Qb (z+1)] [(Dk z),(2,i6 ((Gm c).e))] ⟨w,n51+1,[(Ak w),(Dv z c),(qdvx_8 z c),(D7 z c),(Uy z B1 B2 B3 cR b47),(caps 3 B1),(caps 3 B2),(caps 3 B3),(EI z n17),(XW c n51)]⟩ [] ⟨rfl,rfl,Ae⟩ (.inl rfl) ?_
   refine Es 6 [0,1,2,3,4,5,6,7,8,9] [(Ak w),(Dv z c),(qdvx_8 z c),(D7 z c),(Uy z B1 B2 B3 cR b47),(caps 3 B1),(caps 3 B2),(caps 3 B3),(EI z n17),(XW c n51)] rfl rfl ?_
   refine CU ?_
   refine BK [3,2] [(Dk z),(2,i6 ((Gm c).e))] ?_
   refine IM <| KR <| AA [.at 2,.at 2] [Qb (z+1),Qb (z+1)] (.tuple #[i6 ((Gm c).e),.agg #[i6 ((Gm c).Ai.First),i6 ((Gm c).Ai.Second)]]) ⟨rfl,rfl,Ae⟩ ?_
   intro w54 hw54
   exact⟨congrArg (fun t:Ar=>Ending.returned (.tuple #[i6 t.e,.agg #[i6 t.Ai.First,i6 t.Ai.Second]])) ((Oj (xs:=answers c) (k:=k) (by rw[Iz];omega) hf (by rw[ha];exact fun x=>h53 (GZ.2 x))).trans ha).symm,AO hw54⟩
  ·refine KI (base:=z) (e:=71) (sz:=1) (cells:=(fun v:Value=>[v])) (a:=aR) (n:=((asks (z+2) B1 B2 B3).length)) (cap:=cR) (xs:=(asks (z+2) B1 B2 B3)) 4 (by omega) (fun b55 hg56 hb57 => ?_)
   subst hg56
   refine Az 5 1 [] [[(oi k),(oa [.via 4 (.func (.func 45) #[] #[pt (z+2)])]),o0],[o0]] [Ci k,k<(asks (z+2) B1 B2 B3).length,BN,∀ w',Ch.holds (Ui z B1 B2 B3 cR b55) w'→w'.cell? ⟨b55,0+k,none⟩=some (.func (.func 45) #[] #[pt (z+2)])] [(Dk z),(VD z B1 B2 B3 cR b55),(EJ z B1 B2 B3),(10,Ac k),(14,.func (.func 45) #[] #[pt (z+2)])] rfl ⟨rfl,(by omega),rfl,Ha (sz:=1) (j:=k) (k:=0) (fun _=>rfl) (by omega) (congrArg some hv),Ae⟩ ?_
   refine Bf 45 #[pt (z+2)] (some 15) (.agg (Ar.arr (Gn c))) (fun w58 hw58=>q4_calls w58 (hL.ext (hw58.ext rfl)) c (hc.ext (hw58.ext rfl) (fun _ h=>h)) (z+2) (NR hw58 (i:=3))) (fun n59 (hn60:n29≤n59) => ?_)
   refine EY 3 0 [] [[o0,(an 3 9)]] [Qb n59,Qb n59,Qb n59] [(Dk z),(VD z B1 B2 B3 cR b55),(EJ z B1 B2 B3),(10,Ac k),(6,pt n59)] ⟨w,n59+1,[(Ak w),(Dv z c),(Eo z),(D7 z c),(Ui z B1 B2 B3 cR b55),(caps 3 B1),(caps 3 B2),(caps 3 B3),(EI z n17),(YD c n59)]⟩ rfl ⟨rfl,rfl,rfl,Ae⟩ ?_
   by_cases h61:(((Gn c).e:Int)==(0:Int)&&((((Gn c).Ai.First:Int)==(0:Int)&&(((Gn c).Ai.Second:Int)==(0:Int)&&true))&&true))=true
   ·refine Az 9 0 [0] [[(an 3 9),(oa [.via 0 (i6 0),.via 0 (i6 0),.via 0 (i6 0)]),⟨.seq true,none⟩],[(ov (i6 ((k+1:Nat):Int))),o0]] [Qb n59,Qb n59,Qb n59,Old w 0 0 (i6 0),Old w 0 1 (i6 0),Old w 0 2 (i6 0),(((Gn c).e:Int)==(0:Int)&&((((Gn c).Ai.First:Int)==(0:Int)&&(((Gn c).Ai.Second:Int)==(0:Int)&&true))&&true))=true,Wr ((k:Int)+1) (((k+1:Nat):Int))] [(Dk z),(VD z B1 B2 B3 cR b55),(EJ z B1 B2 B3),(JX k)] rfl ⟨rfl,rfl,rfl,A7 (hL.2 0 _ rfl),A7 (hL.2 1 _ rfl),A7 (hL.2 2 _ rfl),h61,BQ,Ae⟩ ?_
    refine Cb [0,1,2,3,4,5,6,7,8] [(Ak w),(Dv z c),(Eo z),(D7 z c),(Ui z B1 B2 B3 cR b55),(caps 3 B1),(caps 3 B2),(caps 3 B3),(EI z n17)] rfl rfl ?_
    refine BK [3,8,9,10] [(Dk z),(VD z B1 B2 B3 cR b55),(EJ z B1 B2 B3),(JX k)] ?_
    refine BD (fun a w' hs=>⟨(asks (z+2) B1 B2 B3).length - (k+1),by omega,(n59+1),(k+1),(some ⟨b55,0,none⟩),cR,rfl,by omega,by omega,Fh hf (by rw[ha];exact GZ.1 h61),hs⟩)
   refine Az 5 0 [1] [[(an 3 9),(oa [.via 0 (i6 0),.via 0 (i6 0),.via 0 (i6 0)]),⟨.seq false,none⟩]] [Qb n59,Qb n59,Qb n59,Old w 0 0 (i6 0),Old w 0 1 (i6 0),Old w 0 2 (i6 0),(((Gn c).e:Int)==(0:Int)&&((((Gn c).Ai.First:Int)==(0:Int)&&(((Gn c).Ai.Second:Int)==(0:Int)&&true))&&true))=false] [(Dk z),(VD z B1 B2 B3 cR b55),(EJ z B1 B2 B3),(10,Ac k),(6,pt n59),(18,.bool true)] rfl ⟨rfl,rfl,rfl,A7 (hL.2 0 _ rfl),A7 (hL.2 1 _ rfl),A7 (hL.2 2 _ rfl),(Bool.eq_false_iff.2 h61),Ae⟩ ?_
   refine Eh 5 [0,1,2,3,4,5,6,7,8,9] [(Ak w),(Dv z c),(Eo z),(D7 z c),(Ui z B1 B2 B3 cR b55),(caps 3 B1),(caps 3 B2),(caps 3 B3),(EI z n17),(YD c n59)] rfl rfl ?_
   refine Dj [(0,o0),(1,(a1 9)),(2,o0),(3,(an 2 9)),(4,o0)] [3,22,2] [Qb n59,Qb n59,Qb n59] (DF 5 1) [(Dk z),(22,.agg #[i6 ((Gn c).Ai.First),i6 ((Gn c).Ai.Second)]),(2,i6 ((Gn c).e))] ⟨rfl,rfl,rfl,Ae⟩ ?_
   refine BC 5 ?_
   refine BH (an 2 2) [3,2] [Qb (z+1),Qb (z+1)] [(Dk z),(2,i6 ((Gn c).e))] ⟨w,n59+1,[(Ak w),(Dv z c),(qdvx_9 z c),(D7 z c),(Ui z B1 B2 B3 cR b55),(caps 3 B1),(caps 3 B2),(caps 3 B3),(EI z n17),(YD c n59)]⟩ [] ⟨rfl,rfl,Ae⟩ (.inl rfl) ?_
   refine Es 6 [0,1,2,3,4,5,6,7,8,9] [(Ak w),(Dv z c),(qdvx_9 z c),(D7 z c),(Ui z B1 B2 B3 cR b55),(caps 3 B1),(caps 3 B2),(caps 3 B3),(EI z n17),(YD c n59)] rfl rfl ?_
   refine CU ?_
   refine BK [3,2] [(Dk z),(2,i6 ((Gn c).e))] ?_
   refine IM <| KR <| AA [.at 2,.at 2] [Qb (z+1),Qb (z+1)] (.tuple #[i6 ((Gn c).e),.agg #[i6 ((Gn c).Ai.First),i6 ((Gn c).Ai.Second)]]) ⟨rfl,rfl,Ae⟩ ?_
   intro w62 hw62
   exact⟨congrArg (fun t:Ar=>Ending.returned (.tuple #[i6 t.e,.agg #[i6 t.Ai.First,i6 t.Ai.Second]])) ((Oj (xs:=answers c) (k:=k) (by rw[Iz];omega) hf (by rw[ha];exact fun x=>h61 (GZ.2 x))).trans ha).symm,AO hw62⟩
  ·refine KI (base:=z) (e:=71) (sz:=1) (cells:=(fun v:Value=>[v])) (a:=aR) (n:=((asks (z+2) B1 B2 B3).length)) (cap:=cR) (xs:=(asks (z+2) B1 B2 B3)) 4 (by omega) (fun b63 hg64 hb65 => ?_)
   subst hg64
   refine Az 5 1 [] [[(oi k),(oa [.via 4 (.func (.func 46) #[] #[pt (z+2)])]),o0],[o0]] [Ci k,k<(asks (z+2) B1 B2 B3).length,BN,∀ w',Ch.holds (U3 z B1 B2 B3 cR b63) w'→w'.cell? ⟨b63,0+k,none⟩=some (.func (.func 46) #[] #[pt (z+2)])] [(Dk z),(Wj z B1 B2 B3 cR b63),(EJ z B1 B2 B3),(10,Ac k),(14,.func (.func 46) #[] #[pt (z+2)])] rfl ⟨rfl,(by omega),rfl,Ha (sz:=1) (j:=k) (k:=0) (fun _=>rfl) (by omega) (congrArg some hv),Ae⟩ ?_
   refine Bf 46 #[pt (z+2)] (some 15) (.agg (Ar.arr (FV c))) (fun w66 hw66=>q5_calls w66 (hL.ext (hw66.ext rfl)) c (hc.ext (hw66.ext rfl) (fun _ h=>h)) (z+2) (NR hw66 (i:=3))) (fun n67 (hn68:n29≤n67) => ?_)
   refine EY 3 0 [] [[o0,(an 3 9)]] [Qb n67,Qb n67,Qb n67] [(Dk z),(Wj z B1 B2 B3 cR b63),(EJ z B1 B2 B3),(10,Ac k),(6,pt n67)] ⟨w,n67+1,[(Ak w),(Dv z c),(Eo z),(D7 z c),(U3 z B1 B2 B3 cR b63),(caps 3 B1),(caps 3 B2),(caps 3 B3),(EI z n17),(Yi c n67)]⟩ rfl ⟨rfl,rfl,rfl,Ae⟩ ?_
   by_cases h69:(((FV c).e:Int)==(0:Int)&&((((FV c).Ai.First:Int)==(0:Int)&&(((FV c).Ai.Second:Int)==(0:Int)&&true))&&true))=true
   ·refine Az 9 0 [0] [[(an 3 9),(oa [.via 0 (i6 0),.via 0 (i6 0),.via 0 (i6 0)]),⟨.seq true,none⟩],[(ov (i6 ((k+1:Nat):Int))),o0]] [Qb n67,Qb n67,Qb n67,Old w 0 0 (i6 0),Old w 0 1 (i6 0),Old w 0 2 (i6 0),(((FV c).e:Int)==(0:Int)&&((((FV c).Ai.First:Int)==(0:Int)&&(((FV c).Ai.Second:Int)==(0:Int)&&true))&&true))=true,Wr ((k:Int)+1) (((k+1:Nat):Int))] [(Dk z),(Wj z B1 B2 B3 cR b63),(EJ z B1 B2 B3),(JX k)] rfl ⟨rfl,rfl,rfl,A7 (hL.2 0 _ rfl),A7 (hL.2 1 _ rfl),A7 (hL.2 2 _ rfl),h69,BQ,Ae⟩ ?_
    refine Cb [0,1,2,3,4,5,6,7,8] [(Ak w),(Dv z c),(Eo z),(D7 z c),(U3 z B1 B2 B3 cR b63),(caps 3 B1),(caps 3 B2),(caps 3 B3),(EI z n17)] rfl rfl ?_
    refine BK [3,8,9,10] [(Dk z),(Wj z B1 B2 B3 cR b63),(EJ z B1 B2 B3),(JX k)] ?_
    refine BD (fun a w' hs=>⟨(asks (z+2) B1 B2 B3).length - (k+1),by omega,(n67+1),(k+1),(some ⟨b63,0,none⟩),cR,rfl,by omega,by omega,Fh hf (by rw[ha];exact GZ.1 h69),hs⟩)
   refine Az 5 0 [1] [[(an 3 9),(oa [.via 0 (i6 0),.via 0 (i6 0),.via 0 (i6 0)]),⟨.seq false,none⟩]] [Qb n67,Qb n67,Qb n67,Old w 0 0 (i6 0),Old w 0 1 (i6 0),Old w 0 2 (i6 0),(((FV c).e:Int)==(0:Int)&&((((FV c).Ai.First:Int)==(0:Int)&&(((FV c).Ai.Second:Int)==(0:Int)&&true))&&true))=false] [(Dk z),(Wj z B1 B2 B3 cR b63),(EJ z B1 B2 B3),(10,Ac k),(6,pt n67),(18,.bool true)] rfl ⟨rfl,rfl,rfl,A7 (hL.2 0 _ rfl),A7 (hL.2 1 _ rfl),A7 (hL.2 2 _ rfl),(Bool.eq_false_iff.2 h69),Ae⟩ ?_
   refine Eh 5 [0,1,2,3,4,5,6,7,8,9] [(Ak w),(Dv z c),(Eo z),(D7 z c),(U3 z B1 B2 B3 cR b63),(caps 3 B1),(caps 3 B2),(caps 3 B3),(EI z n17),(Yi c n67)] rfl rfl ?_
   refine Dj [(0,o0),(1,(a1 9)),(2,o0),(3,(an 2 9)),(4,o0)] [3,22,2] [Qb n67,Qb n67,Qb n67] (DF 5 1) [(Dk z),(22,.agg #[i6 ((FV c).Ai.First),i6 ((FV c).Ai.Second)]),(2,i6 ((FV c).e))] ⟨rfl,rfl,rfl,Ae⟩ ?_
   refine BC 5 ?_
   refine BH (an 2 2) [3,2] [Qb (z+1),Qb (z+1)] [(Dk z),(2,i6 ((FV c).e))] ⟨w,n67+1,[(Ak w),(Dv z c),(Zdm z c),(D7 z c),(U3 z B1 B2 B3 cR b63),(caps 3 B1),(caps 3 B2),(caps 3 B3),(EI z n17),(Yi c n67)]⟩ [] ⟨rfl,rfl,Ae⟩ (.inl rfl) ?_
   refine Es 6 [0,1,2,3,4,5,6,7,8,9] [(Ak w),(Dv z c),(Zdm z c),(D7 z c),(U3 z B1 B2 B3 cR b63),(caps 3 B1),(caps 3 B2),(caps 3 B3),(EI z n17),(Yi c n67)] rfl rfl ?_
   refine CU ?_
   refine BK [3,2] [(Dk z),(2,i6 ((FV c).e))] ?_
   refine IM <| KR <| AA [.at 2,.at 2] [Qb (z+1),Qb (z+1)] (.tuple #[i6 ((FV c).e),.agg #[i6 ((FV c).Ai.First),i6 ((FV c).Ai.Second)]]) ⟨rfl,rfl,Ae⟩ ?_
   intro w70 hw70
   exact⟨congrArg (fun t:Ar=>Ending.returned (.tuple #[i6 t.e,.agg #[i6 t.Ai.First,i6 t.Ai.Second]])) ((Oj (xs:=answers c) (k:=k) (by rw[Iz];omega) hf (by rw[ha];exact fun x=>h69 (GZ.2 x))).trans ha).symm,AO hw70⟩
  ·have hFr:=Xm hf (by omega)
   have hpf:∀ q,q<p→CX c q=Bg:=fun q hq=>Za7 hf (by omega) (by omega)
   refine KI (base:=z) (e:=71) (sz:=1) (cells:=(fun v:Value=>[v])) (a:=aR) (n:=((asks (z+2) B1 B2 B3).length)) (cap:=cR) (xs:=(asks (z+2) B1 B2 B3)) 4 (by omega) (fun b71 hg72 hb73 => ?_)
   subst hg72
   refine Az 5 1 [] [[(oi k),(oa [.via 4 (.func (.func 47) #[] #[pt (z+2),pt b])]),o0],[o0]] [Ci k,k<(asks (z+2) B1 B2 B3).length,BN,∀ w',Ch.holds (Uu z B1 B2 B3 cR b71) w'→w'.cell? ⟨b71,0+k,none⟩=some (.func (.func 47) #[] #[pt (z+2),pt b])] [(Dk z),(VP z B1 B2 B3 cR b71),(EJ z B1 B2 B3),(10,Ac k),(14,.func (.func 47) #[] #[pt (z+2),pt b])] rfl ⟨rfl,(by omega),rfl,Ha (sz:=1) (j:=k) (k:=0) (fun _=>rfl) (by omega) (congrArg some hv),Ae⟩ ?_
   refine Bf 47 #[pt (z+2),pt b] (some 15) (.agg (Ar.arr (CX c p))) (fun w74 hw74=>q6_calls w74 (hL.ext (hw74.ext rfl)) c (hc.ext (hw74.ext rfl) (fun _ h=>h)) (z+2) (NR hw74 (i:=3)) b p (WH hw74 hb (i:=5)) hp hFr hpf) (fun n75 (hn76:n29≤n75) => ?_)
   refine EY 3 0 [] [[o0,(an 3 9)]] [Qb n75,Qb n75,Qb n75] [(Dk z),(VP z B1 B2 B3 cR b71),(EJ z B1 B2 B3),(10,Ac k),(6,pt n75)] ⟨w,n75+1,[(Ak w),(Dv z c),(Eo z),(D7 z c),(Uu z B1 B2 B3 cR b71),(caps 3 B1),(caps 3 B2),(caps 3 B3),(EI z n17),(Yf c p n75)]⟩ rfl ⟨rfl,rfl,rfl,Ae⟩ ?_
   by_cases h77:(((CX c p).e:Int)==(0:Int)&&((((CX c p).Ai.First:Int)==(0:Int)&&(((CX c p).Ai.Second:Int)==(0:Int)&&true))&&true))=true
   ·refine Az 9 0 [0] [[(an 3 9),(oa [.via 0 (i6 0),.via 0 (i6 0),.via 0 (i6 0)]),⟨.seq true,none⟩],[(ov (i6 ((k+1:Nat):Int))),o0]] [Qb n75,Qb n75,Qb n75,Old w 0 0 (i6 0),Old w 0 1 (i6 0),Old w 0 2 (i6 0),(((CX c p).e:Int)==(0:Int)&&((((CX c p).Ai.First:Int)==(0:Int)&&(((CX c p).Ai.Second:Int)==(0:Int)&&true))&&true))=true,Wr ((k:Int)+1) (((k+1:Nat):Int))] [(Dk z),(VP z B1 B2 B3 cR b71),(EJ z B1 B2 B3),(JX k)] rfl ⟨rfl,rfl,rfl,A7 (hL.2 0 _ rfl),A7 (hL.2 1 _ rfl),A7 (hL.2 2 _ rfl),h77,BQ,Ae⟩ ?_
    refine Cb [0,1,2,3,4,5,6,7,8] [(Ak w),(Dv z c),(Eo z),(D7 z c),(Uu z B1 B2 B3 cR b71),(caps 3 B1),(caps 3 B2),(caps 3 B3),(EI z n17)] rfl rfl ?_
    refine BK [3,8,9,10] [(Dk z),(VP z B1 B2 B3 cR b71),(EJ z B1 B2 B3),(JX k)] ?_
    refine BD (fun a w' hs=>⟨(asks (z+2) B1 B2 B3).length - (k+1),by omega,(n75+1),(k+1),(some ⟨b71,0,none⟩),cR,rfl,by omega,by omega,Fh hf (by rw[ha];exact GZ.1 h77),hs⟩)
   refine Az 5 0 [1] [[(an 3 9),(oa [.via 0 (i6 0),.via 0 (i6 0),.via 0 (i6 0)]),⟨.seq false,none⟩]] [Qb n75,Qb n75,Qb n75,Old w 0 0 (i6 0),Old w 0 1 (i6 0),Old w 0 2 (i6 0),(((CX c p).e:Int)==(0:Int)&&((((CX c p).Ai.First:Int)==(0:Int)&&(((CX c p).Ai.Second:Int)==(0:Int)&&true))&&true))=false] [(Dk z),(VP z B1 B2 B3 cR b71),(EJ z B1 B2 B3),(10,Ac k),(6,pt n75),(18,.bool true)] rfl ⟨rfl,rfl,rfl,A7 (hL.2 0 _ rfl),A7 (hL.2 1 _ rfl),A7 (hL.2 2 _ rfl),(Bool.eq_false_iff.2 h77),Ae⟩ ?_
   refine Eh 5 [0,1,2,3,4,5,6,7,8,9] [(Ak w),(Dv z c),(Eo z),(D7 z c),(Uu z B1 B2 B3 cR b71),(caps 3 B1),(caps 3 B2),(caps 3 B3),(EI z n17),(Yf c p n75)] rfl rfl ?_
   refine Dj [(0,o0),(1,(a1 9)),(2,o0),(3,(an 2 9)),(4,o0)] [3,22,2] [Qb n75,Qb n75,Qb n75] (DF 5 1) [(Dk z),(22,.agg #[i6 ((CX c p).Ai.First),i6 ((CX c p).Ai.Second)]),(2,i6 ((CX c p).e))] ⟨rfl,rfl,rfl,Ae⟩ ?_
   refine BC 5 ?_
   refine BH (an 2 2) [3,2] [Qb (z+1),Qb (z+1)] [(Dk z),(2,i6 ((CX c p).e))] ⟨w,n75+1,[(Ak w),(Dv z c),(qdvx_3 z c p),(D7 z c),(Uu z B1 B2 B3 cR b71),(caps 3 B1),(caps 3 B2),(caps 3 B3),(EI z n17),(Yf c p n75)]⟩ [] ⟨rfl,rfl,Ae⟩ (.inl rfl) ?_
   refine Es 6 [0,1,2,3,4,5,6,7,8,9] [(Ak w),(Dv z c),(qdvx_3 z c p),(D7 z c),(Uu z B1 B2 B3 cR b71),(caps 3 B1),(caps 3 B2),(caps 3 B3),(EI z n17),(Yf c p n75)] rfl rfl ?_
   refine CU ?_
   refine BK [3,2] [(Dk z),(2,i6 ((CX c p).e))] ?_
   refine IM <| KR <| AA [.at 2,.at 2] [Qb (z+1),Qb (z+1)] (.tuple #[i6 ((CX c p).e),.agg #[i6 ((CX c p).Ai.First),i6 ((CX c p).Ai.Second)]]) ⟨rfl,rfl,Ae⟩ ?_
   intro w78 hw78
   exact⟨congrArg (fun t:Ar=>Ending.returned (.tuple #[i6 t.e,.agg #[i6 t.Ai.First,i6 t.Ai.Second]])) ((Oj (xs:=answers c) (k:=k) (by rw[Iz];omega) hf (by rw[ha];exact fun x=>h77 (GZ.2 x))).trans ha).symm,AO hw78⟩
  ·have hm:=ZbS hf (by omega);have hq:=ports_of hf (by omega)
   refine KI (base:=z) (e:=71) (sz:=1) (cells:=(fun v:Value=>[v])) (a:=aR) (n:=((asks (z+2) B1 B2 B3).length)) (cap:=cR) (xs:=(asks (z+2) B1 B2 B3)) 4 (by omega) (fun b79 hg80 hb81 => ?_)
   subst hg80
   refine Az 5 1 [] [[(oi k),(oa [.via 4 (.func (.func 49) #[] #[pt (z+2),pt b])]),o0],[o0]] [Ci k,k<(asks (z+2) B1 B2 B3).length,BN,∀ w',Ch.holds (Um z B1 B2 B3 cR b79) w'→w'.cell? ⟨b79,0+k,none⟩=some (.func (.func 49) #[] #[pt (z+2),pt b])] [(Dk z),(Wl z B1 B2 B3 cR b79),(EJ z B1 B2 B3),(10,Ac k),(14,.func (.func 49) #[] #[pt (z+2),pt b])] rfl ⟨rfl,(by omega),rfl,Ha (sz:=1) (j:=k) (k:=0) (fun _=>rfl) (by omega) (congrArg some hv),Ae⟩ ?_
   refine Bf 49 #[pt (z+2),pt b] (some 15) (.agg (Ar.arr (Dx c p))) (fun w82 hw82=>q7_calls w82 (hL.ext (hw82.ext rfl)) c (hc.ext (hw82.ext rfl) (fun _ h=>h)) (z+2) (NR hw82 (i:=3)) b p (WH hw82 hb (i:=6)) hp hm hq) (fun n83 (hn84:n29≤n83) => ?_)
   refine EY 3 0 [] [[o0,(an 3 9)]] [Qb n83,Qb n83,Qb n83] [(Dk z),(Wl z B1 B2 B3 cR b79),(EJ z B1 B2 B3),(10,Ac k),(6,pt n83)] ⟨w,n83+1,[(Ak w),(Dv z c),(Eo z),(D7 z c),(Um z B1 B2 B3 cR b79),(caps 3 B1),(caps 3 B2),(caps 3 B3),(EI z n17),(Yt c p n83)]⟩ rfl ⟨rfl,rfl,rfl,Ae⟩ ?_
   by_cases h85:(((Dx c p).e:Int)==(0:Int)&&((((Dx c p).Ai.First:Int)==(0:Int)&&(((Dx c p).Ai.Second:Int)==(0:Int)&&true))&&true))=true
   ·refine Az 9 0 [0] [[(an 3 9),(oa [.via 0 (i6 0),.via 0 (i6 0),.via 0 (i6 0)]),⟨.seq true,none⟩],[(ov (i6 ((k+1:Nat):Int))),o0]] [Qb n83,Qb n83,Qb n83,Old w 0 0 (i6 0),Old w 0 1 (i6 0),Old w 0 2 (i6 0),(((Dx c p).e:Int)==(0:Int)&&((((Dx c p).Ai.First:Int)==(0:Int)&&(((Dx c p).Ai.Second:Int)==(0:Int)&&true))&&true))=true,Wr ((k:Int)+1) (((k+1:Nat):Int))] [(Dk z),(Wl z B1 B2 B3 cR b79),(EJ z B1 B2 B3),(JX k)] rfl ⟨rfl,rfl,rfl,A7 (hL.2 0 _ rfl),A7 (hL.2 1 _ rfl),A7 (hL.2 2 _ rfl),h85,BQ,Ae⟩ ?_
    refine Cb [0,1,2,3,4,5,6,7,8] [(Ak w),(Dv z c),(Eo z),(D7 z c),(Um z B1 B2 B3 cR b79),(caps 3 B1),(caps 3 B2),(caps 3 B3),(EI z n17)] rfl rfl ?_
    refine BK [3,8,9,10] [(Dk z),(Wl z B1 B2 B3 cR b79),(EJ z B1 B2 B3),(JX k)] ?_
    refine BD (fun a w' hs=>⟨(asks (z+2) B1 B2 B3).length - (k+1),by omega,(n83+1),(k+1),(some ⟨b79,0,none⟩),cR,rfl,by omega,by omega,Fh hf (by rw[ha];exact GZ.1 h85),hs⟩)
   refine Az 5 0 [1] [[(an 3 9),(oa [.via 0 (i6 0),.via 0 (i6 0),.via 0 (i6 0)]),⟨.seq false,none⟩]] [Qb n83,Qb n83,Qb n83,Old w 0 0 (i6 0),Old w 0 1 (i6 0),Old w 0 2 (i6 0),(((Dx c p).e:Int)==(0:Int)&&((((Dx c p).Ai.First:Int)==(0:Int)&&(((Dx c p).Ai.Second:Int)==(0:Int)&&true))&&true))=false] [(Dk z),(Wl z B1 B2 B3 cR b79),(EJ z B1 B2 B3),(10,Ac k),(6,pt n83),(18,.bool true)] rfl ⟨rfl,rfl,rfl,A7 (hL.2 0 _ rfl),A7 (hL.2 1 _ rfl),A7 (hL.2 2 _ rfl),(Bool.eq_false_iff.2 h85),Ae⟩ ?_
   refine Eh 5 [0,1,2,3,4,5,6,7,8,9] [(Ak w),(Dv z c),(Eo z),(D7 z c),(Um z B1 B2 B3 cR b79),(caps 3 B1),(caps 3 B2),(caps 3 B3),(EI z n17),(Yt c p n83)] rfl rfl ?_
   refine Dj [(0,o0),(1,(a1 9)),(2,o0),(3,(an 2 9)),(4,o0)] [3,22,2] [Qb n83,Qb n83,Qb n83] (DF 5 1) [(Dk z),(22,.agg #[i6 ((Dx c p).Ai.First),i6 ((Dx c p).Ai.Second)]),(2,i6 ((Dx c p).e))] ⟨rfl,rfl,rfl,Ae⟩ ?_
   refine BC 5 ?_
   refine BH (an 2 2) [3,2] [Qb (z+1),Qb (z+1)] [(Dk z),(2,i6 ((Dx c p).e))] ⟨w,n83+1,[(Ak w),(Dv z c),(qdvx_4 z c p),(D7 z c),(Um z B1 B2 B3 cR b79),(caps 3 B1),(caps 3 B2),(caps 3 B3),(EI z n17),(Yt c p n83)]⟩ [] ⟨rfl,rfl,Ae⟩ (.inl rfl) ?_
   refine Es 6 [0,1,2,3,4,5,6,7,8,9] [(Ak w),(Dv z c),(qdvx_4 z c p),(D7 z c),(Um z B1 B2 B3 cR b79),(caps 3 B1),(caps 3 B2),(caps 3 B3),(EI z n17),(Yt c p n83)] rfl rfl ?_
   refine CU ?_
   refine BK [3,2] [(Dk z),(2,i6 ((Dx c p).e))] ?_
   refine IM <| KR <| AA [.at 2,.at 2] [Qb (z+1),Qb (z+1)] (.tuple #[i6 ((Dx c p).e),.agg #[i6 ((Dx c p).Ai.First),i6 ((Dx c p).Ai.Second)]]) ⟨rfl,rfl,Ae⟩ ?_
   intro w86 hw86
   exact⟨congrArg (fun t:Ar=>Ending.returned (.tuple #[i6 t.e,.agg #[i6 t.Ai.First,i6 t.Ai.Second]])) ((Oj (xs:=answers c) (k:=k) (by rw[Iz];omega) hf (by rw[ha];exact fun x=>h85 (GZ.2 x))).trans ha).symm,AO hw86⟩
  ·refine KI (base:=z) (e:=71) (sz:=1) (cells:=(fun v:Value=>[v])) (a:=aR) (n:=((asks (z+2) B1 B2 B3).length)) (cap:=cR) (xs:=(asks (z+2) B1 B2 B3)) 4 (by omega) (fun b87 hg88 hb89 => ?_)
   subst hg88
   refine Az 5 1 [] [[(oi k),(oa [.via 4 (.func (.func 51) #[] #[pt (z+2),pt b])]),o0],[o0]] [Ci k,k<(asks (z+2) B1 B2 B3).length,BN,∀ w',Ch.holds (Ux z B1 B2 B3 cR b87) w'→w'.cell? ⟨b87,0+k,none⟩=some (.func (.func 51) #[] #[pt (z+2),pt b])] [(Dk z),(We z B1 B2 B3 cR b87),(EJ z B1 B2 B3),(10,Ac k),(14,.func (.func 51) #[] #[pt (z+2),pt b])] rfl ⟨rfl,(by omega),rfl,Ha (sz:=1) (j:=k) (k:=0) (fun _=>rfl) (by omega) (congrArg some hv),Ae⟩ ?_
   refine Bf 51 #[pt (z+2),pt b] (some 15) (.agg (Ar.arr (Em c p))) (fun w90 hw90=>q8_calls w90 (hL.ext (hw90.ext rfl)) c (hc.ext (hw90.ext rfl) (fun _ h=>h)) (z+2) (NR hw90 (i:=3)) b p (WH hw90 hb (i:=7)) hp) (fun n91 (hn92:n29≤n91) => ?_)
   refine EY 3 0 [] [[o0,(an 3 9)]] [Qb n91,Qb n91,Qb n91] [(Dk z),(We z B1 B2 B3 cR b87),(EJ z B1 B2 B3),(10,Ac k),(6,pt n91)] ⟨w,n91+1,[(Ak w),(Dv z c),(Eo z),(D7 z c),(Ux z B1 B2 B3 cR b87),(caps 3 B1),(caps 3 B2),(caps 3 B3),(EI z n17),(Y6 c p n91)]⟩ rfl ⟨rfl,rfl,rfl,Ae⟩ ?_
   by_cases h93:(((Em c p).e:Int)==(0:Int)&&((((Em c p).Ai.First:Int)==(0:Int)&&(((Em c p).Ai.Second:Int)==(0:Int)&&true))&&true))=true
   ·refine Az 9 0 [0] [[(an 3 9),(oa [.via 0 (i6 0),.via 0 (i6 0),.via 0 (i6 0)]),⟨.seq true,none⟩],[(ov (i6 ((k+1:Nat):Int))),o0]] [Qb n91,Qb n91,Qb n91,Old w 0 0 (i6 0),Old w 0 1 (i6 0),Old w 0 2 (i6 0),(((Em c p).e:Int)==(0:Int)&&((((Em c p).Ai.First:Int)==(0:Int)&&(((Em c p).Ai.Second:Int)==(0:Int)&&true))&&true))=true,Wr ((k:Int)+1) (((k+1:Nat):Int))] [(Dk z),(We z B1 B2 B3 cR b87),(EJ z B1 B2 B3),(JX k)] rfl ⟨rfl,rfl,rfl,A7 (hL.2 0 _ rfl),A7 (hL.2 1 _ rfl),A7 (hL.2 2 _ rfl),h93,BQ,Ae⟩ ?_
    refine Cb [0,1,2,3,4,5,6,7,8] [(Ak w),(Dv z c),(Eo z),(D7 z c),(Ux z B1 B2 B3 cR b87),(caps 3 B1),(caps 3 B2),(caps 3 B3),(EI z n17)] rfl rfl ?_
    refine BK [3,8,9,10] [(Dk z),(We z B1 B2 B3 cR b87),(EJ z B1 B2 B3),(JX k)] ?_
    refine BD (fun a w' hs=>⟨(asks (z+2) B1 B2 B3).length - (k+1),by omega,(n91+1),(k+1),(some ⟨b87,0,none⟩),cR,rfl,by omega,by omega,Fh hf (by rw[ha];exact GZ.1 h93),hs⟩)
   refine Az 5 0 [1] [[(an 3 9),(oa [.via 0 (i6 0),.via 0 (i6 0),.via 0 (i6 0)]),⟨.seq false,none⟩]] [Qb n91,Qb n91,Qb n91,Old w 0 0 (i6 0),Old w 0 1 (i6 0),Old w 0 2 (i6 0),(((Em c p).e:Int)==(0:Int)&&((((Em c p).Ai.First:Int)==(0:Int)&&(((Em c p).Ai.Second:Int)==(0:Int)&&true))&&true))=false] [(Dk z),(We z B1 B2 B3 cR b87),(EJ z B1 B2 B3),(10,Ac k),(6,pt n91),(18,.bool true)] rfl ⟨rfl,rfl,rfl,A7 (hL.2 0 _ rfl),A7 (hL.2 1 _ rfl),A7 (hL.2 2 _ rfl),(Bool.eq_false_iff.2 h93),Ae⟩ ?_
   refine Eh 5 [0,1,2,3,4,5,6,7,8,9] [(Ak w),(Dv z c),(Eo z),(D7 z c),(Ux z B1 B2 B3 cR b87),(caps 3 B1),(caps 3 B2),(caps 3 B3),(EI z n17),(Y6 c p n91)] rfl rfl ?_
   refine Dj [(0,o0),(1,(a1 9)),(2,o0),(3,(an 2 9)),(4,o0)] [3,22,2] [Qb n91,Qb n91,Qb n91] (DF 5 1) [(Dk z),(22,.agg #[i6 ((Em c p).Ai.First),i6 ((Em c p).Ai.Second)]),(2,i6 ((Em c p).e))] ⟨rfl,rfl,rfl,Ae⟩ ?_
   refine BC 5 ?_
   refine BH (an 2 2) [3,2] [Qb (z+1),Qb (z+1)] [(Dk z),(2,i6 ((Em c p).e))] ⟨w,n91+1,[(Ak w),(Dv z c),(qdvx_5 z c p),(D7 z c),(Ux z B1 B2 B3 cR b87),(caps 3 B1),(caps 3 B2),(caps 3 B3),(EI z n17),(Y6 c p n91)]⟩ [] ⟨rfl,rfl,Ae⟩ (.inl rfl) ?_
   refine Es 6 [0,1,2,3,4,5,6,7,8,9] [(Ak w),(Dv z c),(qdvx_5 z c p),(D7 z c),(Ux z B1 B2 B3 cR b87),(caps 3 B1),(caps 3 B2),(caps 3 B3),(EI z n17),(Y6 c p n91)] rfl rfl ?_
   refine CU ?_
   refine BK [3,2] [(Dk z),(2,i6 ((Em c p).e))] ?_
   refine IM <| KR <| AA [.at 2,.at 2] [Qb (z+1),Qb (z+1)] (.tuple #[i6 ((Em c p).e),.agg #[i6 ((Em c p).Ai.First),i6 ((Em c p).Ai.Second)]]) ⟨rfl,rfl,Ae⟩ ?_
   intro w94 hw94
   exact⟨congrArg (fun t:Ar=>Ending.returned (.tuple #[i6 t.e,.agg #[i6 t.Ai.First,i6 t.Ai.Second]])) ((Oj (xs:=answers c) (k:=k) (by rw[Iz];omega) hf (by rw[ha];exact fun x=>h93 (GZ.2 x))).trans ha).symm,AO hw94⟩
  have hFr:=Xm hf (by omega)
  have hpf:∀ q,q<c.Aa.xs.length→CX c q=Bg:=fun q hq=>Za7 hf hq (by omega)
  refine KI (base:=z) (e:=71) (sz:=1) (cells:=(fun v:Value=>[v])) (a:=aR) (n:=((asks (z+2) B1 B2 B3).length)) (cap:=cR) (xs:=(asks (z+2) B1 B2 B3)) 4 (by omega) (fun b95 hg96 hb97 => ?_)
  subst hg96
  refine Az 5 1 [] [[(oi k),(oa [.via 4 (.func (.func 53) #[] #[pt (z+2)])]),o0],[o0]] [Ci k,k<(asks (z+2) B1 B2 B3).length,BN,∀ w',Ch.holds (Ud z B1 B2 B3 cR b95) w'→w'.cell? ⟨b95,0+k,none⟩=some (.func (.func 53) #[] #[pt (z+2)])] [(Dk z),(V6 z B1 B2 B3 cR b95),(EJ z B1 B2 B3),(10,Ac k),(14,.func (.func 53) #[] #[pt (z+2)])] rfl ⟨rfl,(by omega),rfl,Ha (sz:=1) (j:=k) (k:=0) (fun _=>rfl) (by omega) (congrArg some hv),Ae⟩ ?_
  refine Bf 53 #[pt (z+2)] (some 15) (.agg (Ar.arr (IQ c))) (fun w98 hw98=>q9_calls w98 (hL.ext (hw98.ext rfl)) c (hc.ext (hw98.ext rfl) (fun _ h=>h)) (z+2) (NR hw98 (i:=3)) hFr hpf) (fun n99 (hn100:n29≤n99) => ?_)
  refine EY 3 0 [] [[o0,(an 3 9)]] [Qb n99,Qb n99,Qb n99] [(Dk z),(V6 z B1 B2 B3 cR b95),(EJ z B1 B2 B3),(10,Ac k),(6,pt n99)] ⟨w,n99+1,[(Ak w),(Dv z c),(Eo z),(D7 z c),(Ud z B1 B2 B3 cR b95),(caps 3 B1),(caps 3 B2),(caps 3 B3),(EI z n17),(Y9 c n99)]⟩ rfl ⟨rfl,rfl,rfl,Ae⟩ ?_
  by_cases h101:(((IQ c).e:Int)==(0:Int)&&((((IQ c).Ai.First:Int)==(0:Int)&&(((IQ c).Ai.Second:Int)==(0:Int)&&true))&&true))=true
  ·refine Az 9 0 [0] [[(an 3 9),(oa [.via 0 (i6 0),.via 0 (i6 0),.via 0 (i6 0)]),⟨.seq true,none⟩],[(ov (i6 ((k+1:Nat):Int))),o0]] [Qb n99,Qb n99,Qb n99,Old w 0 0 (i6 0),Old w 0 1 (i6 0),Old w 0 2 (i6 0),(((IQ c).e:Int)==(0:Int)&&((((IQ c).Ai.First:Int)==(0:Int)&&(((IQ c).Ai.Second:Int)==(0:Int)&&true))&&true))=true,Wr ((k:Int)+1) (((k+1:Nat):Int))] [(Dk z),(V6 z B1 B2 B3 cR b95),(EJ z B1 B2 B3),(JX k)] rfl ⟨rfl,rfl,rfl,A7 (hL.2 0 _ rfl),A7 (hL.2 1 _ rfl),A7 (hL.2 2 _ rfl),h101,BQ,Ae⟩ ?_
   refine Cb [0,1,2,3,4,5,6,7,8] [(Ak w),(Dv z c),(Eo z),(D7 z c),(Ud z B1 B2 B3 cR b95),(caps 3 B1),(caps 3 B2),(caps 3 B3),(EI z n17)] rfl rfl ?_
   refine BK [3,8,9,10] [(Dk z),(V6 z B1 B2 B3 cR b95),(EJ z B1 B2 B3),(JX k)] ?_
   refine BD (fun a w' hs=>⟨(asks (z+2) B1 B2 B3).length - (k+1),by omega,(n99+1),(k+1),(some ⟨b95,0,none⟩),cR,rfl,by omega,by omega,Fh hf (by rw[ha];exact GZ.1 h101),hs⟩)
  refine Az 5 0 [1] [[(an 3 9),(oa [.via 0 (i6 0),.via 0 (i6 0),.via 0 (i6 0)]),⟨.seq false,none⟩]] [Qb n99,Qb n99,Qb n99,Old w 0 0 (i6 0),Old w 0 1 (i6 0),Old w 0 2 (i6 0),(((IQ c).e:Int)==(0:Int)&&((((IQ c).Ai.First:Int)==(0:Int)&&(((IQ c).Ai.Second:Int)==(0:Int)&&true))&&true))=false] [(Dk z),(V6 z B1 B2 B3 cR b95),(EJ z B1 B2 B3),(10,Ac k),(6,pt n99),(18,.bool true)] rfl ⟨rfl,rfl,rfl,A7 (hL.2 0 _ rfl),A7 (hL.2 1 _ rfl),A7 (hL.2 2 _ rfl),(Bool.eq_false_iff.2 h101),Ae⟩ ?_
  refine Eh 5 [0,1,2,3,4,5,6,7,8,9] [(Ak w),(Dv z c),(Eo z),(D7 z c),(Ud z B1 B2 B3 cR b95),(caps 3 B1),(caps 3 B2),(caps 3 B3),(EI z n17),(Y9 c n99)] rfl rfl ?_
  refine Dj [(0,o0),(1,(a1 9)),(2,o0),(3,(an 2 9)),(4,o0)] [3,22,2] [Qb n99,Qb n99,Qb n99] (DF 5 1) [(Dk z),(22,.agg #[i6 ((IQ c).Ai.First),i6 ((IQ c).Ai.Second)]),(2,i6 ((IQ c).e))] ⟨rfl,rfl,rfl,Ae⟩ ?_
  refine BC 5 ?_
  refine BH (an 2 2) [3,2] [Qb (z+1),Qb (z+1)] [(Dk z),(2,i6 ((IQ c).e))] ⟨w,n99+1,[(Ak w),(Dv z c),(Zd8 z c),(D7 z c),(Ud z B1 B2 B3 cR b95),(caps 3 B1),(caps 3 B2),(caps 3 B3),(EI z n17),(Y9 c n99)]⟩ [] ⟨rfl,rfl,Ae⟩ (.inl rfl) ?_
  refine Es 6 [0,1,2,3,4,5,6,7,8,9] [(Ak w),(Dv z c),(Zd8 z c),(D7 z c),(Ud z B1 B2 B3 cR b95),(caps 3 B1),(caps 3 B2),(caps 3 B3),(EI z n17),(Y9 c n99)] rfl rfl ?_
  refine CU ?_
  refine BK [3,2] [(Dk z),(2,i6 ((IQ c).e))] ?_
  refine IM <| KR <| AA [.at 2,.at 2] [Qb (z+1),Qb (z+1)] (.tuple #[i6 ((IQ c).e),.agg #[i6 ((IQ c).Ai.First),i6 ((IQ c).Ai.Second)]]) ⟨rfl,rfl,Ae⟩ ?_
  intro w102 hw102
  exact⟨congrArg (fun t:Ar=>Ending.returned (.tuple #[i6 t.e,.agg #[i6 t.Ai.First,i6 t.Ai.Second]])) ((Oj (xs:=answers c) (k:=k) (by rw[Iz];omega) hf (by rw[ha];exact fun x=>h101 (GZ.2 x))).trans ha).symm,AO hw102⟩
 refine Az 15 0 [0] [[oF],[o0,o0,(an 2 2)]] [BF ((k:Int)<(((asks (z+2) B1 B2 B3).length:Nat):Int)),Qb (z+1),Qb (z+1)] [(Dk z),(2,i6 0)] rfl ⟨bf,rfl,rfl,Ae⟩ ?_
 refine AA [.at 2,.at 2] [Qb (z+1),Qb (z+1)] (.tuple #[i6 0,.agg #[i6 0,i6 0]]) ⟨rfl,rfl,Ae⟩ ?_
 intro w103 hw103
 exact⟨congrArg (fun t:Ar=>Ending.returned (.tuple #[i6 t.e,.agg #[i6 t.Ai.First,i6 t.Ai.Second]])) (Zaz (xs:=answers c) (fun i hi=>hf i (by rw[Iz]at hi;omega))).symm,AO hw103⟩
def RP{α:Type}(s:Sl α):Sl α:=⟨none,0,s.xs⟩
def KP(x:Ap):Ap:={ x with Af:=RP x.Af,Am:=RP x.Am }
def strip(c:Aj):Aj:={ c with Aq:=⟨none,0,c.Aq.xs.map RP⟩,Aa:=⟨none,0,c.Aa.xs.map KP⟩,Ag:=RP c.Ag }
theorem Zdp{α β:Type}[Inhabited α][Inhabited β]{f:α→β}(h:f default=default)(xs:List α)(k:Nat):gd (xs.map f) k=f (gd xs k):=by
 unfold gd
 rw[List.getD_eq_getElem?_getD,List.getD_eq_getElem?_getD,List.getElem?_map]
 cases xs[k]? with
 | none=>exact h.symm
 | some x=>rfl
section
variable {c:Aj}
theorem PM(p:Nat):gd (strip c).Aa.xs p=KP (gd c.Aa.xs p):=Zdp (by rfl) _ _
theorem ZQ(p:Nat):gd (strip c).Aq.xs p=RP (gd c.Aq.xs p):=Zdp (by rfl) _ _
theorem O1:(strip c).Aa.xs.length=c.Aa.xs.length:=List.length_map _
theorem ZO:(strip c).Aq.xs.length=c.Aq.xs.length:=List.length_map _
theorem YV(k:Nat)(b:Bool):Jh (strip c) k b=Jh c k b:=by
 unfold Jh G5
 rw[O1]
 show((List.take _ (c.Aa.xs.map KP)).map _).sum=_
 rw[←List.map_take,List.map_map];rfl
theorem XD:EK (strip c)=EK c:=by
 unfold EK
 rw[O1,show(strip c).Aa.xs.all (Ew (strip c).Ag.xs.length)=c.Aa.xs.all (Ew c.Ag.xs.length)from by
  show(c.Aa.xs.map KP).all _=_
  rw[List.all_map];rfl]
 have h:Nk (strip c)=Nk c:=by
  funext k;unfold Nk;rw[YV,YV];rfl
 rw[h];rfl
theorem ends_strip(k:Int)(b:Bool):CQ (strip c) k b=CQ c k b:=by
 unfold CQ Dw
 rw[O1]
 congr 1
 funext p
 rw[PM];rfl
theorem Zbj:∀ k,Dl (strip c) k=Dl c k
 | 0=>by show Dp _ _=Dp _ _;unfold Dp;rw[O1];rfl
 | k+1=>by
  show Dl (strip c) k+cLen (strip c) k=Dl c k+cLen c k
  rw[Zbj k]
  unfold cLen Kw
  rw[ends_strip];rfl
theorem Zbw:∀ k,Et (strip c) k=Et c k
 | 0=>by
  show Ns (strip c)=Ns c
  unfold Ns
  rw[Zbj];rfl
 | k+1=>by
  show Et (strip c) k+1+(Jq (gd (strip c).Aa.xs k):Int)=Et c k+1+(Jq (gd c.Aa.xs k):Int)
  rw[Zbw k,PM];rfl
theorem need_strip:KG (strip c)=KG c:=by unfold KG;rw[XD,O1,Zbw];rfl
theorem err_strip:errOf (strip c)=errOf c:=by unfold errOf;rw[XD]
theorem Rj(p k:Nat):EC (strip c) p k=EC c p k:=by unfold EC;rw[PM];rfl
theorem prt_strip(p k:Nat):Xe (strip c) p k=Xe c p k:=by unfold Xe;rw[PM];rfl
theorem Zdf(p:Nat):AX (strip c) p=AX c p:=by
 unfold AX EQ
 simp only[PM];rfl
theorem ZcK(f:Bh→Bool)(n:Nat):JD f (strip c).Aa.xs n=JD f c.Aa.xs n:=by
 unfold JD
 simp only[PM];rfl
theorem src_strip(h:Int):II (strip c) h=II c h:=by unfold II;rw[ZcK,O1]
theorem dst_strip(h:Int):BB (strip c) h=BB c h:=by unfold BB;rw[ZcK,O1]
theorem regQ_strip(p k:Nat):ES (strip c) p k=ES c p k:=by
 have h1:QD (strip c) p k=QD c p k:=by funext i;unfold QD;rw[Rj,Rj]
 have h2:Xy (strip c) p k=Xy c p k:=by
  funext q
  unfold Xy EQ
  have h3:PR (strip c) p k q=PR c p k q:=by funext n;unfold PR;rw[Rj,Rj]
  rw[h3,PM];rfl
 unfold ES
 rw[h1,h2,Rj];rfl
theorem ZcW(p:Nat):CX (strip c) p=CX c p:=by
 have hA:G6 (strip c) p=G6 c p:=by unfold G6 EQ;rw[Zdf,PM];rfl
 have hE:H9 (strip c) p=H9 c p:=by unfold H9 EQ;rw[PM];rfl
 have hQ:J8 (strip c) p=J8 c p:=by funext k;unfold J8;rw[prt_strip];rfl
 have hR:ES (strip c) p=ES c p:=by funext k;exact regQ_strip p k
 have hB:IP (strip c) p=IP c p:=by unfold IP;rw[hA,hR];unfold EQ;rw[PM];rfl
 unfold CX
 rw[hB,hE,hQ];unfold EQ;rw[PM];rfl
theorem ZcR(h:Nat):Dx (strip c) h=Dx c h:=by
 unfold Dx
 rw[src_strip,dst_strip];rfl
theorem Zdg(k:Nat)(p:Int):Ii (strip c) k p=Ii c k p:=by
 unfold Ii
 congr 1
 funext i
 unfold WZ ED
 rw[ZQ];rfl
theorem ZcX(k:Nat):Em (strip c) k=Em c k:=by
 have hW:Gf (strip c) k=Gf c k:=by
  funext n
  unfold Gf Ob
  simp only[Zdg,O1]
  unfold ED
  rw[ZQ];rfl
 unfold Em
 rw[hW];unfold ED;rw[ZQ];rfl
theorem kern_strip:FM (strip c)=FM c:=by
 have h:SC (strip c)=SC c:=by
  funext q
  have h2:Vp (strip c) q=Vp c q:=by funext n;unfold Vp;rw[Rj];rfl
  unfold SC EQ
  rw[h2,PM];rfl
 unfold FM
 rw[h,err_strip,need_strip,O1];rfl
theorem YY:CO (strip c)=CO c:=by
 have h1:CX (strip c)=CX c:=by funext p;exact ZcW p
 have h2:Dx (strip c)=Dx c:=by funext p;exact ZcR p
 have h3:Em (strip c)=Em c:=by funext p;exact ZcX p
 unfold CO answers
 rw[h1,h2,h3,O1,ZO]
 unfold IQ Gm Gn
 rw[kern_strip,O1,ZO];rfl
end
theorem OT{c d:Aj}(h:strip c=strip d):CO c=CO d:=by rw[←YY,h,YY]
end Go.Proofs.YtnjhekfgmbpmlaaDoor.Ad
namespace Go.Proofs.YtnjhekfgmbpmlaaDoor.Eng
open Go Go.ChangeShapes Go.WideShapes Go.Deep
set_option linter.unusedSimpArgs false
set_option linter.unusedVariables false
theorem weightsAll_mem{H:Type}{P:Program}{e:TypeId}:∀ {l:List (DataW H)} {d:DataW H},d∈l→∀ n∈d.weights P e,n∈DataW.weightsAll P e l
 | a :: l,d,h,n,hn=>by
  simp only[DataW.weightsAll,List.mem_append]
  rcases List.mem_cons.1 h with rfl | h
  ·exact .inl hn
  exact .inr (weightsAll_mem h n hn)
def Rd(P:Program){α:Type}(t:TypeId)(cells:α→List Value)(ok:(Nat→Prop)→World→α→Prop):Prop :=
 ∀ (H:Type) (enc:TypeId×Value→H) (W:World) (fuel:Nat) (cs:List Value) (x:DataW H×List MemPlace),DataW.trod enc P W 0 (fun _=>true) true fuel t cs=some x→(∀ n∈x.1.weights P t,n≤reachBytes)→∃ a:α,cs=cells a∧ok Any W a
section
variable {P:Program}{t:TypeId}
theorem KD{k:IntKind}(ht:P.underlying t=some (.int k)):Rd P t (fun x:Int=>[Value.int k x]) (fun _ _ x=>Hy k x):=by
 intro H enc W fuel cs x h _
 obtain⟨n,rfl,rfl,hw⟩:=DataW.trod_int ht h
 refine⟨n,rfl, ?_⟩
 simp only[Lit.wf,Bool.and_eq_true,decide_eq_true_eq]at hw
 cases k <;> simp only[Hy] <;> simp[IntKind.min,IntKind.max,IntKind.bits,IntKind.signed]at hw <;> first | omega | exact⟨by omega,by omega⟩ | trivial
theorem rd_bool(ht:P.underlying t=some .bool):Rd P t (fun x:Bool=>[Value.bool x]) (fun _ _ _=>True):=by
 intro H enc W fuel cs x h _
 obtain⟨b,rfl,rfl⟩:=DataW.trod_bool ht h
 exact⟨b,rfl,Ae⟩
theorem rd_string(ht:P.underlying t=some .string):Rd P t (fun x:ByteArray=>[Value.string x]) (fun _ _ x=>x.size≤140737488351232):=by
 intro H enc W fuel cs x h hw
 obtain⟨s,rfl,rfl, -⟩:=DataW.trod_string ht h
 refine⟨s,rfl, ?_⟩
 have:=hw s.data.toList.length (by simp[DataW.weights])
 simpa[reachBytes]using this
theorem GN{H:Type}{enc:TypeId×Value→H}{W:World}{α:Type}{cells:α→List Value}{ok:(Nat→Prop)→World→α→Prop}{fs:Array Field}{xs:List (DataW H×List MemPlace)}{n:Nat}{cs:List Value}(ht:P.underlying t=some (.struct fs))(hlen:xs.length=fs.size)
   (hf:∀ (i:Nat) (f:Field),fs[i]? = some f→DataW.trod enc P W 0 (fun _=>true) true n f.type ((cs.drop f.offset).take (P.cellsOf f.type))=xs[i]?) (hw:∀ n∈(DataW.agg (xs.map (·.1))).weights P t,n≤reachBytes)
   (i o c:Nat) (f:Field) (hi:fs[i]? = some f) (ho:f.offset=o) (hc:P.cellsOf f.type=c) (hr:Rd P f.type cells ok):∃ y:α,(cs.drop o).take c=cells y∧ok Any W y:=by
 subst ho;subst hc
 have hlt:i<xs.length:=by rw[hlen];exact(Array.getElem?_eq_some_iff.1 hi).1
 have h1:=hf i f hi
 rw[List.getElem?_eq_getElem hlt]at h1
 refine hr H enc W n _ _ h1 (fun q hq=>hw q ?_)
 simp only[DataW.weights,ht]
 exact DataW.weights_mem_each (j:=i) (t:=f.type) (d:=(xs[i]).1) (by rw[List.getElem?_map];simp only[Array.getElem?_toList,hi];rfl) (by simp[hlt]) q hq
theorem cs1{cs:List Value}(h:cs.length=1):∃ a,cs=[a]:=match cs,h with | [a],_=>⟨a,rfl⟩
theorem rd_arg{H:Type}{enc:TypeId×Value→H}{W:World}{base j:Nat}{α:Type}{cells:α→List Value}{ok:(Nat→Prop)→World→α→Prop}{fs:Array Field}{v:Value}{d:DataW H}{p:List MemPlace}{ts:List TypeId}{ds:List (DataW H)}
   (hr:Rd P t cells ok) (ht:P.underlying t=some (.struct fs)) (hv:Value.okWide P W .any base t v) (h:DataW.Trod enc P W 0 (fun _=>true) true t v d p) (hsz:(DataW.weightsEach P ts ds).all (· ≤ reachBytes)=true) (hj:ts[j]? = some t) (hd:ds[j]? = some d):∃ a:α,v = .agg (cells a).toArray∧ok Any W a:=by
 obtain⟨arr,rfl, -⟩:=okWide_struct ht hv
 obtain⟨fuel,h⟩:=h
 obtain⟨a,ha,hok⟩:=hr H enc W fuel _ _ h (fun n hn=>by have:=List.all_eq_true.1 hsz _ (DataW.weights_mem_each hj hd n hn);simpa using this)
 refine⟨a, ?_,hok⟩
 have ha':arr.toList=cells a:=ha
 rw[←ha']
theorem rd_arg1{H:Type}{enc:TypeId×Value→H}{W:World}{j:Nat}{α:Type}{V:α→Value}{ok:(Nat→Prop)→World→α→Prop}{v:Value}{d:DataW H}{p:List MemPlace}{ts:List TypeId}{ds:List (DataW H)}
   (hr:Rd P t (fun x=>[V x]) ok) (hna:v.cells = #[v]) (h:DataW.Trod enc P W 0 (fun _=>true) true t v d p) (hsz:(DataW.weightsEach P ts ds).all (· ≤ reachBytes)=true) (hj:ts[j]? = some t) (hd:ds[j]? = some d):∃ a:α,v=V a∧ok Any W a:=by
 obtain⟨fuel,h⟩:=h
 rw[hna]at h
 obtain⟨a,ha,hok⟩:=hr H enc W fuel _ _ h (fun n hn=>by have:=List.all_eq_true.1 hsz _ (DataW.weights_mem_each hj hd n hn);simpa using this)
 simp only[List.cons.injEq,and_true]at ha
 exact⟨a,ha,hok⟩
end
open Go Go.Proofs.YtnjhekfgmbpmlaaDoor.Mem Go.ChangeShapes Go.WideShapes Go.Deep
section
variable {P:Program}{N:Nat}{env:Env}{ds:List Deferred}{A:AW}{ops:Array Oper}{l:List Oper}{s:List Kt}{Q:Exit→Act→World→Prop}
theorem WP{α:Type}(base i k:Nat)(xs ys:List α)(ya:Option Addr)(cells:α→List Value)(e:TypeId)(sz by':Nat)(v:Value)(m cp:Nat)(c0:Ch)(d:Option Nat)(h63:xs.length+ys.length≤281474976710656)(hbytes:(xs.length+ys.length)*by'≤140737488355328)(hbase:base≤A.n)(hd:∀ w',c0.holds w'→KU cells sz Any w' ⟨ya,cp,ys⟩)
   (K:∀ a' cap' n',A.n≤n'→Lg P N (IE env d (.slice a' (xs++ys).length cap')) ds { A with n:=n',σ:=A.σ.set i (BJ base e sz cells (.slice a' (xs++ys).length cap') (xs++ys)) } ops (l.drop 1) s Q)
   (hm:ys.length=m:=by rfl) (h:(match l with | o :: _=>(appS P N ops env o).map (fun x=>(x,o.dst)) | []=>none)=some ((e,sz,by',v,ya,m,cp),d):=by as_aux_lemma=>kernel_rfl) (hi:A.σ[i]? = some (BJ base e sz cells v xs):=by rfl) (hk:A.σ[k]? = some c0:=by rfl) (hsz:∀ x,(cells x).length=sz:=by intro _;rfl) (h1:∀ x,(cells x).all Value.oneCell'=true:=by intro _;rfl):Lg P N env ds A ops l s Q:=by
 intro a w hst
 cases l with
 | nil=>cases h
 | cons o l =>
   simp only[Option.map_eq_some_iff]at h
   obtain⟨y,hy,h⟩:=h
   simp only[Prod.mk.injEq]at h
   obtain⟨rfl,rfl⟩:=h
   obtain⟨hw,hdst,a',cap',w',hr,hsz',hs'⟩:=appS_run (xs:=xs) (ys:=ys) hy hst hi hsz (fun x u hu=>List.all_eq_true.1 (h1 x) u hu) (hd w (hst.mem.at hk)) hm (by unfold maxLen;omega) (by rw[←hm];exact hbytes) hbase
   refine MV hw (.inl hr) ?_
   exact K a' cap' _ hsz' _ _ (hst.put hs' _ hdst _)
end
section
variable {P:Program}{t:TypeId}
theorem Rq{α:Type}[Inhabited α]{cells:α→List Value}{ok:(Nat→Prop)→World→α→Prop}{e:TypeId}{sz:Nat}(ht:P.underlying t=some (.slice e))(hc:P.cellsOf e=sz)(hsz:∀ x,(cells x).length=sz)(hs0:0<sz)(hpos:Nat.blt 0 (P.bytesOf e)=true)(h:Rd P e cells ok) :
   Rd P t (fun s:Sl α=>[s.val]) (fun F W s=>Je cells sz ok F W s∧s.xs.length*P.bytesOf e≤reachBytes):=by
 intro H enc W fuel cs x hx hw
 rcases open_slice ht hx with⟨rfl,rfl⟩ | ⟨a,len,cap,m,n,D,Pl,rfl,hb,hl,hm,hmm,rfl,hi⟩
 · exact⟨⟨none,0,[]⟩,rfl,⟨⟨Nat.zero_le _,Nat.le_refl _,fun h=>absurd rfl h⟩,fun i hi=>absurd hi (Nat.not_lt_zero i)⟩,by simp⟩
 · simp only[if_true]at hmm
   subst hmm
   rw[hc]at hi
   have hww:∀ q∈DataW.weightsAll P e ((List.range len).map D),q≤reachBytes:=fun q hq=>hw q (by simp only[DataW.weights,ht,List.mem_cons,List.mem_append];exact .inr (.inl hq))
   have hY:∀ i,i<len→∃ y:α,(W.cells? 0 (a.add (i*sz)) sz=some (cells y))∧ok Any W y:=by
     intro i hi'
     obtain⟨cs',h1,h2⟩:=hi i (by omega)
     obtain⟨y,rfl,hy⟩:=h H enc W n cs' _ h2 (fun q hq=>hww q (weightsAll_mem (d:=D i) (List.mem_map_of_mem (List.mem_range.2 hi')) q hq))
     exact⟨y,h1,hy⟩
   obtain⟨Y,hY⟩:=choose_lt hY
   have hbig:(len+(m - len))*P.bytesOf e≤reachBytes:=hw _ (by simp[DataW.weights,ht])
   have hlen:len+(m - len)≤140737488351232:=Nat.le_trans (Nat.le_mul_of_pos_right _ (by simpa using hpos)) hbig
   have hg:∀ i,i<len→gd ((List.range len).map Y) i=Y i:=fun i hi'=>by rw[F9 (by simpa using hi')];simp
   refine⟨⟨some a,m,(List.range len).map Y⟩,by simp[Sl.val],⟨⟨by simp;omega,by simpa using hl,fun hne => ?_⟩,fun i hi' => ?_⟩,Nat.le_trans (Nat.mul_le_mul_right _ (by simp)) hbig⟩
   · have h0:0<len:=by
       rcases Nat.eq_zero_or_pos len with h | h
       · subst h;exact absurd rfl hne
       · exact h
     have hsp:a.spot=none:=by
       obtain⟨-, -,h3⟩:=World.cells?_some (hY 0 h0).1
       have h4:=h3 0 hs0
       rw[List.getElem?_eq_getElem (by rw[hsz];exact hs0)]at h4
       have:=World.cell?_spot h4
       simpa[Addr.add]using this
     obtain⟨b,off,sp⟩:=a
     simp only at hsp;subst hsp
     refine⟨b,off,rfl,Ae,fun i hi' k v hv => ?_⟩
     have hi2:i<len:=by simpa using hi'
     obtain⟨-, -,h3⟩:=World.cells?_some (hY i hi2).1
     have hv':(cells (Y i))[k]? = some v:=by simpa using hv
     have hk:k<sz:=by rw[←hsz (Y i)];exact(List.getElem?_eq_some_iff.1 hv').1
     have:=h3 k hk
     rw[hv']at this
     rw[Md]
     have e1:(⟨b,off,none⟩:Addr).add (i*sz)=⟨b,off+i*sz,none⟩:=OO rfl _
     have e2:(⟨b,off+i*sz,none⟩:Addr).add k=⟨b,off+i*sz+k,none⟩:=OO rfl _
     rw[e1,e2]at this
     exact this
   · have hi2:i<len:=by simpa using hi'
     rw[hg i hi2];exact(hY i hi2).2
end
end Go.Proofs.YtnjhekfgmbpmlaaDoor.Eng
namespace Go.Proofs.YtnjhekfgmbpmlaaDoor.Ad
open Go Go.Proofs.YtnjhekfgmbpmlaaDoor.Eng Go.Proofs.YtnjhekfgmbpmlaaDoor.Mem Go.Proofs.YtnjhekfgmbpmlaaDoor.Ly
set_option linter.unusedSimpArgs false
set_option linter.unusedVariables false
set_option maxRecDepth 100000
structure TD(c:Aj):Prop where
 cl:c.Aq.xs.length*24≤140737488351232
 pl:c.Aa.xs.length*104≤140737488351232
 hl:c.Ag.xs.length*24≤140737488351232
 ws:∀ i,i<c.Aq.xs.length→(gd c.Aq.xs i).xs.length*24≤140737488351232
 rs:∀ i,i<c.Aa.xs.length→(gd c.Aa.xs i).Af.xs.length*32≤140737488351232
 qs:∀ i,i<c.Aa.xs.length→(gd c.Aa.xs i).Am.xs.length*16≤140737488351232
def confS(n:Nat)(C:Aj):List Ch:=[BJ n 42 1 (fun x:Sl Au=>[Sl.val x]) C.Aq.val C.Aq.xs,Be n 44 3 Au.cells C.Aq.xs,BJ n 41 8 Ap.cells C.Aa.val C.Aa.xs,Be n 49 4 A8.cells (C.Aa.xs.map Ap.Af),Be n 57 2 Bh.cells (C.Aa.xs.map Ap.Am),BJ n 55 3 AL.cells C.Ag.val C.Ag.xs]
def Za0(n:Nat)(W:World)(C:Aj):Prop:=∃ w0,Sat ⟨w0,W.heap.size,confS n C⟩ W
theorem ZcO{c d:Aj}(h:strip d=strip c):d.Aq.xs.length=c.Aq.xs.length∧d.Aa.xs.length=c.Aa.xs.length∧d.Ag.xs=c.Ag.xs∧(∀ i,(gd d.Aq.xs i).xs=(gd c.Aq.xs i).xs)∧∀ i,KP (gd d.Aa.xs i)=KP (gd c.Aa.xs i):=by
 refine⟨?_, ?_, ?_,fun i => ?_,fun i => ?_⟩
 ·rw[←ZO (c:=d),h,ZO]
 ·rw[←O1 (c:=d),h,O1]
 ·show(strip d).Ag.xs=(strip c).Ag.xs
  rw[h]
 ·have e1:=ZQ (c:=d) i
  have e2:=ZQ (c:=c) i
  rw[h]at e1
  have:=congrArg Sl.xs (e1.symm.trans e2)
  exact this
 have e1:=PM (c:=d) i
 have e2:=PM (c:=c) i
 rw[h]at e1
 exact e1.symm.trans e2
theorem own_ok{c d:Aj}{n:Nat}{W W0:World}{F:Nat→Prop}(hc:Aj.ok F W0 c)(h:strip d=strip c)(ho:Za0 n W d):Aj.ok (New n) W d:=by
 obtain⟨w0,hs⟩:=ho
 obtain⟨h1,h2,h3,h4,h5⟩:=ZcO h
 have r1:W.ownsRow n 42 1 (.slice d.Aq.a d.Aq.xs.length d.Aq.cap) d.Aq.xs.length (d.Aq.xs.flatMap (fun x:Sl Au=>[Sl.val x])):=hs.at (i:=0) rfl
 have r2:(Be n 44 3 Au.cells d.Aq.xs).holds W:=hs.at (i:=1) rfl
 have r3:W.ownsRow n 41 8 (.slice d.Aa.a d.Aa.xs.length d.Aa.cap) d.Aa.xs.length (d.Aa.xs.flatMap Ap.cells):=hs.at (i:=2) rfl
 have r4:(Be n 49 4 A8.cells (d.Aa.xs.map Ap.Af)).holds W:=hs.at (i:=3) rfl
 have r5:(Be n 57 2 Bh.cells (d.Aa.xs.map Ap.Am)).holds W:=hs.at (i:=4) rfl
 have r6:W.ownsRow n 55 3 (.slice d.Ag.a d.Ag.xs.length d.Ag.cap) d.Ag.xs.length (d.Ag.xs.flatMap AL.cells):=hs.at (i:=5) rfl
 have nums:=congrArg (fun c:Aj=>(c.Frames,c.CJ,c.Kernel,c.Room)) h
 simp only[Prod.mk.injEq]at nums
 obtain⟨n1,n2,n3,n4⟩:=nums
 have n1':d.Frames=c.Frames:=n1
 have n2':d.CJ=c.CJ:=n2
 have n3':d.Kernel=c.Kernel:=n3
 have n4':d.Room=c.Room:=n4
 refine⟨by rw[n1'];exact hc.Frames,by rw[n2'];exact hc.CJ,by rw[n3'];exact hc.Kernel,by rw[n4'];exact hc.Room,⟨?_,fun i hi => ?_⟩,⟨?_,fun i hi => ?_⟩,⟨?_,fun i hi => ?_⟩⟩
 ·exact MI (fun _=>rfl) r1 (by rw[h1];exact hc.Aq.1.len)
 ·have hi':i<c.Aq.xs.length:=by omega
  refine⟨Sv (cells:=Au.cells) (hs:=d.Aq.xs) (s:=gd d.Aq.xs i) (fun _=>rfl) r2 (by rw[F9 hi];exact List.getElem_mem _) (by rw[h4];exact(hc.Aq.2 i hi').1.len),fun j hj => ?_⟩
  rw[h4]at hj ⊢
  have:=(hc.Aq.2 i hi').2 j hj
  exact⟨this.Partition,this.Ba,this.AQ⟩
 ·exact MI (fun _=>rfl) r3 (by rw[h2];exact hc.Aa.1.len)
 ·have hi':i<c.Aa.xs.length:=by omega
  have hp:=hc.Aa.2 i hi'
  have e:=h5 i
  have m1:=congrArg (fun x:Ap=>(x.Name,x.Entry,x.DK,x.AY,x.DI,x.Bi)) e
  simp only[Prod.mk.injEq]at m1
  obtain⟨a1,a2,a3,a4,a5,a6⟩:=m1
  have b1:(gd d.Aa.xs i).Name=(gd c.Aa.xs i).Name:=a1
  have b2:(gd d.Aa.xs i).Entry=(gd c.Aa.xs i).Entry:=a2
  have b3:(gd d.Aa.xs i).DK=(gd c.Aa.xs i).DK:=a3
  have b4:(gd d.Aa.xs i).AY=(gd c.Aa.xs i).AY:=a4
  have b5:(gd d.Aa.xs i).DI=(gd c.Aa.xs i).DI:=a5
  have b6:(gd d.Aa.xs i).Bi=(gd c.Aa.xs i).Bi:=a6
  have e1:(gd d.Aa.xs i).Af.xs=(gd c.Aa.xs i).Af.xs:=by have:=congrArg (fun x:Ap=>x.Af.xs) e;exact this
  have e2:(gd d.Aa.xs i).Am.xs=(gd c.Aa.xs i).Am.xs:=by have:=congrArg (fun x:Ap=>x.Am.xs) e;exact this
  have hm:gd d.Aa.xs i∈d.Aa.xs:=by rw[F9 hi];exact List.getElem_mem _
  refine⟨by rw[b1];exact hp.Name,by rw[b2];exact hp.Entry,by rw[b3];exact hp.DK,by rw[b4];exact hp.AY,by rw[b5];exact hp.DI,by rw[b6];exact hp.Bi,⟨Sv (cells:=A8.cells) (fun _=>rfl) r4 (List.mem_map_of_mem hm) (by rw[e1];exact hp.Af.1.len),fun j hj => ?_⟩,⟨Sv (cells:=Bh.cells) (fun _=>rfl) r5 (List.mem_map_of_mem hm) (by rw[e2];exact hp.Am.1.len),fun j hj => ?_⟩⟩
  ·rw[e1]at hj ⊢
   have:=hp.Af.2 j hj
   exact⟨this.Bj,this.AV,this.Frame,this.GM⟩
  rw[e2]at hj ⊢
  have:=hp.Am.2 j hj
  exact⟨this.Channel,this.Source⟩
 ·exact MI (fun _=>rfl) r6 (by rw[h3];exact hc.Ag.1.len)
 rw[h3]at hi ⊢
 have:=hc.Ag.2 i hi
 exact⟨this.Kind,this.Words,this.Dn⟩
theorem ZcA{c d:Aj}(h0:d.Frames=c.Frames∧d.CJ=c.CJ∧d.Kernel=c.Kernel∧d.Room=c.Room)(h1:d.Aq.xs.length=c.Aq.xs.length)(h2:d.Aa.xs.length=c.Aa.xs.length)(h3:d.Ag.xs=c.Ag.xs)(h4:∀ i,i<c.Aq.xs.length→(gd d.Aq.xs i).xs=(gd c.Aq.xs i).xs)(h5:∀ i,i<c.Aa.xs.length→KP (gd d.Aa.xs i)=KP (gd c.Aa.xs i)):strip d=strip c:=by
 have e1:d.Aq.xs.map RP=c.Aq.xs.map RP:=by
  apply List.ext_getElem (by simpa using h1)
  intro i hi hi'
  have:=h4 i (by simpa using hi')
  rw[F9 (by simpa using hi),F9 (by simpa using hi')]at this
  simp[RP,this]
 have e2:d.Aa.xs.map KP=c.Aa.xs.map KP:=by
  apply List.ext_getElem (by simpa using h2)
  intro i hi hi'
  have:=h5 i (by simpa using hi')
  rw[F9 (by simpa using hi),F9 (by simpa using hi')]at this
  simpa using this
 obtain⟨f1,f2,f3,f4⟩:=h0
 unfold strip
 rw[e1,e2,f1,f2,f3,f4]
 simp only[RP,h3]
section
variable (n24:Nat)(y33:Ap)(ax34:Option Addr)(cp35:Nat)(ax38:Option Addr)(cp39 z:Nat)(c:Aj)(aC:Option Addr)(csG:List (Sl Au))(cC b42:Nat)(psG:List Ap)(cP:Nat)(aP:Option Addr)(p:Nat)
abbrev X6:=bk n24 #[.string y33.Name,i6 y33.Entry,i6 y33.DK,i6 y33.AY,i6 y33.DI,i6 y33.Bi,.slice ax34 (([]++y33.Af.xs).length) cp35,.slice ax38 (([]++y33.Am.xs).length) cp39] 41
abbrev UD:=bk (z+2) #[i6 c.Frames,i6 c.CJ,i6 c.Kernel,i6 c.Room,.slice aC csG.length cC,.slice c.Aa.a c.Aa.xs.length c.Aa.cap,.slice c.Ag.a c.Ag.xs.length c.Ag.cap] 26
abbrev Xg:=bk (z+2) #[i6 c.Frames,i6 c.CJ,i6 c.Kernel,i6 c.Room,.slice aC csG.length cC,.slice (some ⟨b42,0,none⟩) psG.length cP,.slice c.Ag.a c.Ag.xs.length c.Ag.cap] 26
abbrev U8:=bk (z+2) #[i6 c.Frames,i6 c.CJ,i6 c.Kernel,i6 c.Room,.slice aC csG.length cC,.slice aP psG.length cP,.slice c.Ag.a c.Ag.xs.length c.Ag.cap] 26
abbrev Lp:=bk (z+1) #[i6 0,i6 0,i6 0,i6 0,.slice none 0 0,.slice none 0 0,.slice none 0 0] 26
abbrev KQ:=bk z (Aj.arr c) 26
abbrev Xt:=BJ z 41 8 Ap.cells (.slice (some ⟨b42,0,none⟩) psG.length cP) (psG.set p (⟨y33.Name,y33.Entry,y33.DK,y33.AY,y33.DI,y33.Bi,(⟨ax34,cp35,([]++y33.Af.xs)⟩:Sl A8),(⟨ax38,cp39,([]++y33.Am.xs)⟩:Sl Bh)⟩:Ap))
abbrev MO:=BJ z 42 1 (fun x:Sl Au=>[Sl.val x]) (.slice aC csG.length cC) csG
abbrev TA:=Be z 49 4 A8.cells ((psG.take p).map Ap.Af)
abbrev RV:=Be z 57 2 Bh.cells ((psG.take p).map Ap.Am)
abbrev QE:=BJ z 41 8 Ap.cells (.slice aP psG.length cP) psG
abbrev Hu:=(2,pt (z+1))
abbrev H6:=(3,pt (z+2))
end
theorem ZbH(w:World)(c:Aj)(hc:Aj.ok Any w c)(hLim:TD c):Calls Tryd.prog 11 #[.agg (Aj.arr c)] w fun e w'=>∃ d:Aj,e = .returned (.agg (Aj.arr d))∧strip d=strip c∧Za0 w.heap.size w' d∧CP (fun _=>False) w w':=by
 obtain⟨z,hz⟩:∃ z,z=w.heap.size:=⟨_,rfl⟩
 refine CE (args:=[.agg (Aj.arr c)]) 77 ⟨w,z,[(Ak w)]⟩ Tryd.func11 rfl (by kernel_rfl) (by kernel_rfl) (Ep hz) ?_
 have hpl:=hc.Aa.1.len;have hpc:=hc.Aq.1.len;have hpch:=hc.Ag.1.len;have hll1:=hLim.cl;have hll2:=hLim.pl;have hll3:=hLim.hl
 refine DC [0] [(0,.agg (Aj.arr c))] ?_
 refine q_c 10 3 [] [[o0,o0],[(an 7 1),o0,(an 7 3)],[o0,(a1 1),o0]] [Qb z,Qb z,Qb z,Qb z,Qb z,Qb z,Qb z,Qb (z+2),Qb (z+2),Qb (z+2),Qb (z+2),Qb (z+2),Qb (z+2),Qb (z+2),Qb z] [(1,pt z),(Hu z),(H6 z),(14,Ac c.Aq.xs.length)] ⟨w,z+3,[(Ak w),(KQ z c),(Lp z),(bk (z+2) (Aj.arr c) 26)]⟩ rfl ⟨rfl,rfl,rfl,rfl,rfl,rfl,rfl,rfl,rfl,rfl,rfl,rfl,rfl,rfl,rfl,Ae⟩ ?_
 refine VJ z c.Aq.xs.length (⟨none,0,[]⟩:Sl Au) (fun x:Sl Au=>[Sl.val x]) 42 1 24 (.slice none 0 0) (c.Aq.xs.length:Int) (c.Aq.xs.length:Int) (some 15) rfl rfl (by omega) (by omega) (show z≤z+3 by omega) (fun n1 (hn2:z+3+1≤n1) => ?_)
 refine EY 8 0 [] [[o0,(a1 3)],[o0]] [Qb (z+2)] [(1,pt z),(Hu z),(H6 z),(4,i6 0)] ⟨w,n1,[(Ak w),(KQ z c),(Lp z),(bk (z+2) #[i6 c.Frames,i6 c.CJ,i6 c.Kernel,i6 c.Room,.slice (some ⟨z+3,0,none⟩) c.Aq.xs.length c.Aq.xs.length,.slice c.Aa.a c.Aa.xs.length c.Aa.cap,.slice c.Ag.a c.Ag.xs.length c.Ag.cap] 26),(BJ z 42 1 (fun x:Sl Au=>[Sl.val x]) (.slice (some ⟨z+3,0,none⟩) c.Aq.xs.length c.Aq.xs.length) (List.replicate c.Aq.xs.length (⟨none,0,[]⟩:Sl Au)))]⟩ rfl ⟨rfl,Ae⟩ ?_
 refine RH z 44 3 Au.cells ?_
 refine Di (fun m a w'=>∃ (n4:Nat) (i:Nat) (csG:List (Sl Au)) (aC:Option Addr) (cC:Nat),m=c.Aq.xs.length - i∧n1≤n4∧(i≤c.Aq.xs.length)∧(csG.length=c.Aq.xs.length)∧(∀ q,q<i→(gd csG q).xs=(gd c.Aq.xs q).xs)∧St 77 [(1,pt z),(Hu z),(H6 z),(4,Ac i)] [] ⟨w,n4,[(Ak w),(KQ z c),(Lp z),(UD z c aC csG cC),(MO z aC csG cC),(Be z 44 3 Au.cells (csG.take i))]⟩ a w') (c.Aq.xs.length - 0) ?_ ?_
 ·intro a w' hs;exact⟨n1,0,(List.replicate c.Aq.xs.length ⟨none,0,[]⟩),(some ⟨z+3,0,none⟩),c.Aq.xs.length,rfl,Nat.le_refl _,Nat.zero_le _,List.length_replicate,fun q hq=>absurd hq (Nat.not_lt_zero q),(by(try dsimp only[UD,Lp,KQ,MO,Hu,H6]at hs ⊢);rw[List.take_zero,List.length_replicate];exact hs)⟩
 rintro m a w' ⟨n4,i,csG,aC,cC,rfl,hn3,hki,hcl,hc1,hs⟩
 refine(?_:G Tryd.prog 77 [(1,pt z),(Hu z),(H6 z),(4,Ac i)] [] ⟨w,n4,[(Ak w),(KQ z c),(Lp z),(UD z c aC csG cC),(MO z aC csG cC),(Be z 44 3 Au.cells (csG.take i))]⟩ _ _ _) a w' hs
 clear hs a w'
 refine Ce <| Ce ?_
 by_cases h5:(i:Int)<(c.Aq.xs.length:Int)
 ·refine Az 13 0 [1] [[o0,o0,(a1 1),o0,oT],[o0]] [Qb z,BT ((i:Int)<(c.Aq.xs.length:Int))] [(1,pt z),(Hu z),(H6 z),(4,Ac i),(5,.slice none 0 0)] rfl ⟨rfl,bt,Ae⟩ ?_
  obtain⟨b6,o7,ha8,hF10,hc9⟩:=(hc.Aq).1.all (show 0<c.Aq.xs.length by omega)
  replace ha8:c.Aq.a=some ⟨b6,o7,none⟩:=ha8
  have hc11:=hc9 i (show i<c.Aq.xs.length by omega)
  have he12:=(hc.Aq).2 i (show i<c.Aq.xs.length by omega)
  obtain⟨y13,hy13⟩:∃ y_,y_=gd c.Aq.xs i:=⟨_,rfl⟩
  rw[←hy13]at he12 hc11
  have hlw:=hLim.ws i (by omega);rw[←hy13]at hlw;have hyl:=he12.1.len
  refine Az 1 6 [] [[o0,o0,(DN 1 b6 o7 c.Aq),o0,(oi i),(oa [.via 0 (.slice y13.a y13.xs.length y13.cap)])]] [Qb z,Dh b6 o7 c.Aq,Ci i,i<c.Aq.xs.length,BN,Old w b6 (o7+i) (.slice y13.a y13.xs.length y13.cap)] [(1,pt z),(Hu z),(H6 z),(4,Ac i),(24,.slice none 0 0),(29,.slice y13.a y13.xs.length y13.cap)] rfl ⟨rfl,Df ha8,rfl,(by omega),rfl,A7 (hc11 0 _ rfl),Ae⟩ ?_
  refine Xr z 44 3 Au.cells ?_
  refine WP z 6 0 ([]) y13.xs y13.a Au.cells 44 3 24 (.slice none 0 0) y13.xs.length y13.cap (Ak w) (some 30) (by simp only[List.length_nil];omega) (by simp only[List.length_nil];omega) (show z≤n4 by omega) (fun w' hw=>QO (fun b k v _ hv=>A7 hv w' hw) (fun _ h=>h) (he12).1) (fun ax14 cp15 n16 (hn17:n4≤n16) => ?_)
  refine BP 2 0 [] [[o0]] [] [(1,pt z),(Hu z),(H6 z),(4,Ac i),(5,.slice ax14 (([]++y13.xs).length) cp15)] rfl Ae ?_
  refine KI (base:=z) (e:=42) (sz:=1) (cells:=(fun x:Sl Au=>[Sl.val x])) (a:=aC) (n:=csG.length) (cap:=cC) (xs:=csG) 4 (by omega) (fun b18 hg19 hb20 => ?_)
  subst hg19
  refine Az 1 5 [] [[o0,(a1 3),o0,o0,(oi i)]] [Qb (z+2),Ci i,i<csG.length,BN] [(1,pt z),(Hu z),(H6 z),(4,Ac i),(34,.slice ax14 (([]++y13.xs).length) cp15),(35,.pointer (some ⟨b18,0+i,none⟩))] rfl ⟨rfl,rfl,(by omega),rfl,Ae⟩ ?_
  refine MH 4 i 0 csG (⟨ax14,cp15,([]++y13.xs)⟩:Sl Au) (fun x:Sl Au=>[Sl.val x]) z 42 1 b18 csG.length cC (.slice ax14 (([]++y13.xs).length) cp15) none (by omega) rfl ?_
  refine BP 5 0 [] [[],[o0,(ov (i6 ((i+1:Nat):Int))),o0]] [Wr ((i:Int)+1) (((i+1:Nat):Int))] [(1,pt z),(Hu z),(H6 z),(4,i6 ((i+1:Nat):Int))] rfl ⟨BQ,Ae⟩ ?_
  refine Ua 5 6 [0,1,2,3,4] [(Ak w),(KQ z c),(Lp z),(bk (z+2) #[i6 c.Frames,i6 c.CJ,i6 c.Kernel,i6 c.Room,.slice (some ⟨b18,0,none⟩) csG.length cC,.slice c.Aa.a c.Aa.xs.length c.Aa.cap,.slice c.Ag.a c.Ag.xs.length c.Ag.cap] 26),(BJ z 42 1 (fun x:Sl Au=>[Sl.val x]) (.slice (some ⟨b18,0,none⟩) csG.length cC) (csG.set i (⟨ax14,cp15,([]++y13.xs)⟩:Sl Au)))] ?_
  refine BK [1,2,3,4] [(1,pt z),(Hu z),(H6 z),(4,i6 ((i+1:Nat):Int))] ?_
  refine BD (fun a w' hs=>⟨c.Aq.xs.length - (i+1),by omega,n16,(i+1),(csG.set i (⟨ax14,cp15,([]++y13.xs)⟩:Sl Au)),(some ⟨b18,0,none⟩),cC,rfl,by omega,by omega,by rw[List.length_set];exact hcl,fun q hq=>if e:q=i then(by rw[e,JY (by omega),←hy13];rfl)else(by rw[KA (fun e2=>e e2.symm) (by omega)];exact hc1 q (by omega)),(by(try dsimp only[UD,Lp,KQ,MO,Hu,H6]at hs ⊢);rw[TN (by omega),List.length_set];exact hs)⟩)
 refine Az 11 3 [0] [[o0,o0,(a1 1),o0,oF],[o0,(a1 1),o0]] [Qb z,BF ((i:Int)<(c.Aq.xs.length:Int)),Qb z] [(1,pt z),(Hu z),(H6 z),(38,Ac c.Aa.xs.length)] rfl ⟨rfl,bf,rfl,Ae⟩ ?_
 refine VJ z c.Aa.xs.length (⟨⟨#[]⟩,0,0,0,0,0,(⟨none,0,[]⟩:Sl A8),(⟨none,0,[]⟩:Sl Bh)⟩:Ap) Ap.cells 41 8 104 (.agg #[.string (⟨#[]⟩),i6 0,i6 0,i6 0,i6 0,i6 0,.slice none 0 0,.slice none 0 0]) (c.Aa.xs.length:Int) (c.Aa.xs.length:Int) (some 39) rfl rfl (by omega) (by omega) (show z≤n4 by omega) (fun n21 (hn22:n4+1≤n21) => ?_)
 refine EY 8 0 [] [[o0,(a1 3)],[o0]] [Qb (z+2)] [(1,pt z),(Hu z),(H6 z),(6,i6 0)] ⟨w,n21,[(Ak w),(KQ z c),(Lp z),(bk (z+2) #[i6 c.Frames,i6 c.CJ,i6 c.Kernel,i6 c.Room,.slice aC csG.length cC,.slice (some ⟨n4,0,none⟩) c.Aa.xs.length c.Aa.xs.length,.slice c.Ag.a c.Ag.xs.length c.Ag.cap] 26),(MO z aC csG cC),(Be z 44 3 Au.cells (csG.take i)),(BJ z 41 8 Ap.cells (.slice (some ⟨n4,0,none⟩) c.Aa.xs.length c.Aa.xs.length) (List.replicate c.Aa.xs.length (⟨⟨#[]⟩,0,0,0,0,0,(⟨none,0,[]⟩:Sl A8),(⟨none,0,[]⟩:Sl Bh)⟩:Ap)))]⟩ rfl ⟨rfl,Ae⟩ ?_
 refine RH z 49 4 A8.cells ?_
 refine RH z 57 2 Bh.cells ?_
 refine Di (fun m a w'=>∃ (n24:Nat) (p:Nat) (psG:List Ap) (aP:Option Addr) (cP:Nat),m=c.Aa.xs.length - p∧n21≤n24∧(p≤c.Aa.xs.length)∧(psG.length=c.Aa.xs.length)∧(∀ q,q<p→KP (gd psG q)=KP (gd c.Aa.xs q))∧St 77 [(1,pt z),(Hu z),(H6 z),(6,Ac p)] [] ⟨w,n24,[(Ak w),(KQ z c),(Lp z),(U8 z c aC csG cC psG cP aP),(MO z aC csG cC),(Be z 44 3 Au.cells (csG.take i)),(QE z psG cP aP),(TA z psG p),(RV z psG p)]⟩ a w') (c.Aa.xs.length - 0) ?_ ?_
 ·intro a w' hs;exact⟨n21,0,((List.replicate c.Aa.xs.length (⟨⟨#[]⟩,0,0,0,0,0,(⟨none,0,[]⟩:Sl A8),(⟨none,0,[]⟩:Sl Bh)⟩:Ap))),(some ⟨n4,0,none⟩),c.Aa.xs.length,rfl,Nat.le_refl _,Nat.zero_le _,List.length_replicate,fun q hq=>absurd hq (Nat.not_lt_zero q),(by(try dsimp only[UD,U8,Lp,KQ,MO,TA,RV,QE,Hu,H6]at hs ⊢);rw[List.take_zero,List.length_replicate];exact hs)⟩
 rintro m a w' ⟨n24,p,psG,aP,cP,rfl,hn23,hkp,hpl,hp1,hs⟩
 refine(?_:G Tryd.prog 77 [(1,pt z),(Hu z),(H6 z),(6,Ac p)] [] ⟨w,n24,[(Ak w),(KQ z c),(Lp z),(U8 z c aC csG cC psG cP aP),(MO z aC csG cC),(Be z 44 3 Au.cells (csG.take i)),(QE z psG cP aP),(TA z psG p),(RV z psG p)]⟩ _ _ _) a w' hs
 clear hs a w'
 refine Ce <| Ce ?_
 by_cases h25:(p:Int)<(c.Aa.xs.length:Int)
 ·refine Az 9 0 [1] [[o0,o0,(a1 1),o0,oT]] [Qb z,BT ((p:Int)<(c.Aa.xs.length:Int))] [(1,pt z),(Hu z),(H6 z),(6,Ac p),(45,.bool true)] rfl ⟨rfl,bt,Ae⟩ ?_
  obtain⟨b26,o27,ha28,hF30,hc29⟩:=(hc.Aa).1.all (show 0<c.Aa.xs.length by omega)
  replace ha28:c.Aa.a=some ⟨b26,o27,none⟩:=ha28
  have hc31:=hc29 p (show p<c.Aa.xs.length by omega)
  have he32:=(hc.Aa).2 p (show p<c.Aa.xs.length by omega)
  obtain⟨y33,hy33⟩:∃ y_,y_=gd c.Aa.xs p:=⟨_,rfl⟩
  rw[←hy33]at he32 hc31
  have hlr:=hLim.rs p (by omega);have hlq:=hLim.qs p (by omega);rw[←hy33]at hlr hlq
  refine q_c 9 3 [] [[o0,(DN 1 b26 o27 c.Aa),o0,(oi p),(ol 0 (Ap.arr y33)),o0,(an 8 9)],[o0],[o0,o0,(a1 9)]] [Qb z,Dh b26 o27 c.Aa,Ci p,p<c.Aa.xs.length,BN,Fa w b26 (o27+p*8) (Ap.arr y33),Qb n24,Qb n24,Qb n24,Qb n24,Qb n24,Qb n24,Qb n24,Qb n24,Qb n24] [(1,pt z),(Hu z),(H6 z),(6,Ac p),(7,pt n24),(53,.slice none 0 0),(55,.slice y33.Af.a y33.Af.xs.length y33.Af.cap)] ⟨w,n24+1,[(Ak w),(KQ z c),(Lp z),(U8 z c aC csG cC psG cP aP),(MO z aC csG cC),(Be z 44 3 Au.cells (csG.take i)),(QE z psG cP aP),(TA z psG p),(RV z psG p),(bk n24 (Ap.arr y33) 41)]⟩ rfl ⟨rfl,Df ha28,rfl,(by omega),rfl,Dt hc31,rfl,rfl,rfl,rfl,rfl,rfl,rfl,rfl,rfl,Ae⟩ ?_
  refine Xr z 49 4 A8.cells ?_
  refine WP z 10 0 ([]) y33.Af.xs y33.Af.a A8.cells 49 4 32 (.slice none 0 0) y33.Af.xs.length y33.Af.cap (Ak w) (some 56) (by simp only[List.length_nil];omega) (by simp only[List.length_nil];omega) (show z≤n24+1 by omega) (fun w' hw=>QO (fun b k v _ hv=>A7 hv w' hw) (fun _ h=>h) (he32.Af).1) (fun ax34 cp35 n36 (hn37:n24+1≤n36) => ?_)
  refine BP 8 3 [] [[o0],[o0],[o0,o0,(a1 9)]] [Qb n24] [(1,pt z),(Hu z),(H6 z),(6,Ac p),(7,pt n24),(8,.slice ax34 (([]++y33.Af.xs).length) cp35),(57,.slice none 0 0),(59,.slice y33.Am.a y33.Am.xs.length y33.Am.cap)] rfl ⟨rfl,Ae⟩ ?_
  refine Xr z 57 2 Bh.cells ?_
  refine WP z 11 0 ([]) y33.Am.xs y33.Am.a Bh.cells 57 2 16 (.slice none 0 0) y33.Am.xs.length y33.Am.cap (Ak w) (some 60) (by simp only[List.length_nil];omega) (by simp only[List.length_nil];omega) (show z≤n36 by omega) (fun w' hw=>QO (fun b k v _ hv=>A7 hv w' hw) (fun _ h=>h) (he32.Am).1) (fun ax38 cp39 n40 (hn41:n36≤n40) => ?_)
  refine EY 10 0 [] [[o0],[o0,o0,(a1 9)],[o0,o0,(a1 9)]] [Qb n24,Qb n24] [(1,pt z),(Hu z),(H6 z),(6,Ac p),(7,pt n24)] ⟨w,n40,[(Ak w),(KQ z c),(Lp z),(U8 z c aC csG cC psG cP aP),(MO z aC csG cC),(Be z 44 3 Au.cells (csG.take i)),(QE z psG cP aP),(TA z psG p),(RV z psG p),(X6 n24 y33 ax34 cp35 ax38 cp39),(BJ z 49 4 A8.cells (.slice ax34 (([]++y33.Af.xs).length) cp35) ([]++y33.Af.xs)),(BJ z 57 2 Bh.cells (.slice ax38 (([]++y33.Am.xs).length) cp39) ([]++y33.Am.xs))]⟩ rfl ⟨rfl,rfl,Ae⟩ ?_
  refine KI (base:=z) (e:=41) (sz:=8) (cells:=Ap.cells) (a:=aP) (n:=psG.length) (cap:=cP) (xs:=psG) 6 (by omega) (fun b42 hg43 hb44 => ?_)
  subst hg43
  refine Az 1 5 [] [[o0,(a1 3),o0,(an 8 9),(oi p)]] [Qb (z+2),Qb n24,Qb n24,Qb n24,Qb n24,Qb n24,Qb n24,Qb n24,Qb n24,Ci p,p<psG.length,BN] [(1,pt z),(Hu z),(H6 z),(6,Ac p),(68,.agg #[.string y33.Name,i6 y33.Entry,i6 y33.DK,i6 y33.AY,i6 y33.DI,i6 y33.Bi,.slice ax34 (([]++y33.Af.xs).length) cp35,.slice ax38 (([]++y33.Am.xs).length) cp39]),(69,.pointer (some ⟨b42,0+Gi 8 p,none⟩))] rfl ⟨rfl,rfl,rfl,rfl,rfl,rfl,rfl,rfl,rfl,rfl,(by omega),rfl,Ae⟩ ?_
  refine Vj 6 p psG (⟨y33.Name,y33.Entry,y33.DK,y33.AY,y33.DI,y33.Bi,(⟨ax34,cp35,([]++y33.Af.xs)⟩:Sl A8),(⟨ax38,cp39,([]++y33.Am.xs)⟩:Sl Bh)⟩:Ap) Ap.cells z 41 8 b42 psG.length cP #[.string y33.Name,i6 y33.Entry,i6 y33.DK,i6 y33.AY,i6 y33.DI,i6 y33.Bi,.slice ax34 (([]++y33.Af.xs).length) cp35,.slice ax38 (([]++y33.Am.xs).length) cp39] none (by omega) ?_
  refine BP 5 0 [] [[],[o0,(ov (i6 ((p+1:Nat):Int))),o0]] [Wr ((p:Int)+1) (((p+1:Nat):Int))] [(1,pt z),(Hu z),(H6 z),(6,i6 ((p+1:Nat):Int))] rfl ⟨BQ,Ae⟩ ?_
  refine Ua 7 10 [0,1,2,3,4,5,6,8,9,11] [(Ak w),(KQ z c),(Lp z),(Xg z c aC csG cC b42 psG cP),(MO z aC csG cC),(Be z 44 3 Au.cells (csG.take i)),(Xt y33 ax34 cp35 ax38 cp39 z b42 psG cP p),(RV z psG p),(X6 n24 y33 ax34 cp35 ax38 cp39),(BJ z 57 2 Bh.cells (.slice ax38 (([]++y33.Am.xs).length) cp39) ([]++y33.Am.xs))] ?_
  refine Ua 7 9 [0,1,2,3,4,5,6,8,10] [(Ak w),(KQ z c),(Lp z),(Xg z c aC csG cC b42 psG cP),(MO z aC csG cC),(Be z 44 3 Au.cells (csG.take i)),(Xt y33 ax34 cp35 ax38 cp39 z b42 psG cP p),(X6 n24 y33 ax34 cp35 ax38 cp39),(Be z 49 4 A8.cells (((psG.take p).map Ap.Af)++[⟨ax34,cp35,([]++y33.Af.xs)⟩]))] ?_
  refine Cb [0,1,2,3,4,5,6,8,9] [(Ak w),(KQ z c),(Lp z),(Xg z c aC csG cC b42 psG cP),(MO z aC csG cC),(Be z 44 3 Au.cells (csG.take i)),(Xt y33 ax34 cp35 ax38 cp39 z b42 psG cP p),(Be z 49 4 A8.cells (((psG.take p).map Ap.Af)++[⟨ax34,cp35,([]++y33.Af.xs)⟩])),(Be z 57 2 Bh.cells (((psG.take p).map Ap.Am)++[⟨ax38,cp39,([]++y33.Am.xs)⟩]))] rfl rfl ?_
  refine BK [1,2,3,6] [(1,pt z),(Hu z),(H6 z),(6,i6 ((p+1:Nat):Int))] ?_
  refine BD (fun a w' hs=>⟨c.Aa.xs.length - (p+1),by omega,n40,(p+1),(psG.set p (⟨y33.Name,y33.Entry,y33.DK,y33.AY,y33.DI,y33.Bi,(⟨ax34,cp35,([]++y33.Af.xs)⟩:Sl A8),(⟨ax38,cp39,([]++y33.Am.xs)⟩:Sl Bh)⟩:Ap)),(some ⟨b42,0,none⟩),cP,rfl,by omega,by omega,by rw[List.length_set];exact hpl,fun q hq=>if e:q=p then(by rw[e,JY (by omega),←hy33];rfl)else(by rw[KA (fun e2=>e e2.symm) (by omega)];exact hp1 q (by omega)),(by(try dsimp only[X6,UD,Xg,U8,Lp,KQ,Xt,MO,TA,RV,QE,Hu,H6]at hs ⊢);rw[TN (by omega),List.map_append,List.map_append,List.length_set];exact hs)⟩)
 refine Az 15 3 [0] [[o0,o0,(a1 1),o0,oF],[o0],[o0,o0,(a1 1)]] [Qb z,BF ((p:Int)<(c.Aa.xs.length:Int)),Qb z] [(Hu z),(H6 z),(70,.slice none 0 0),(72,.slice c.Ag.a c.Ag.xs.length c.Ag.cap)] rfl ⟨rfl,bf,rfl,Ae⟩ ?_
 refine Xr z 55 3 AL.cells ?_
 refine WP z 9 0 ([]) c.Ag.xs c.Ag.a AL.cells 55 3 24 (.slice none 0 0) c.Ag.xs.length c.Ag.cap (Ak w) (some 73) (by simp only[List.length_nil];omega) (by simp only[List.length_nil];omega) (show z≤n24 by omega) (fun w' hw=>QO (fun b k v _ hv=>A7 hv w' hw) (fun _ h=>h) (hc.Ag).1) (fun ax45 cp46 n47 (hn48:n24≤n47) => ?_)
 refine EY 11 0 [] [[o0],[o0,o0,(a1 3)],[(an 7 3),(an 7 2)]] [Qb (z+2),Qb (z+2),Qb (z+2),Qb (z+2),Qb (z+2),Qb (z+2),Qb (z+2),Qb (z+2),Qb (z+1),Qb (z+1),Qb (z+1),Qb (z+1),Qb (z+1),Qb (z+1),Qb (z+1)] [(Hu z)] ⟨w,n47,[(Ak w),(KQ z c),(bk (z+1) #[i6 c.Frames,i6 c.CJ,i6 c.Kernel,i6 c.Room,.slice aC csG.length cC,.slice aP psG.length cP,.slice ax45 (([]++c.Ag.xs).length) cp46] 26),(bk (z+2) #[i6 c.Frames,i6 c.CJ,i6 c.Kernel,i6 c.Room,.slice aC csG.length cC,.slice aP psG.length cP,.slice ax45 (([]++c.Ag.xs).length) cp46] 26),(MO z aC csG cC),(Be z 44 3 Au.cells (csG.take i)),(QE z psG cP aP),(TA z psG p),(RV z psG p),(BJ z 55 3 AL.cells (.slice ax45 (([]++c.Ag.xs).length) cp46) ([]++c.Ag.xs))]⟩ rfl ⟨rfl,rfl,rfl,rfl,rfl,rfl,rfl,rfl,rfl,rfl,rfl,rfl,rfl,rfl,rfl,Ae⟩ ?_
 refine AA [.at 2,.at 2,.at 2,.at 2,.at 2,.at 2,.at 2] [Qb (z+1),Qb (z+1),Qb (z+1),Qb (z+1),Qb (z+1),Qb (z+1),Qb (z+1)] (.agg #[i6 c.Frames,i6 c.CJ,i6 c.Kernel,i6 c.Room,.slice aC csG.length cC,.slice aP psG.length cP,.slice ax45 (([]++c.Ag.xs).length) cp46]) ⟨rfl,rfl,rfl,rfl,rfl,rfl,rfl,Ae⟩ ?_
 intro w49 hw49
 have hO:Za0 z w49 (⟨c.Frames,c.CJ,c.Kernel,c.Room,⟨aC,cC,csG⟩,⟨aP,cP,psG⟩,⟨ax45,cp46,([]++c.Ag.xs)⟩⟩:Aj):=⟨w,by
  have h4:=hw49.pick [4,5,6,7,8,9] rfl rfl
  rw[hw49.size]
  unfold confS Sl.val
  (try dsimp only[X6,UD,Xg,U8,Lp,KQ,Xt,MO,TA,RV,QE,Hu,H6]at h4)
  rw[List.take_of_length_le (by omega),List.take_of_length_le (by omega)]at h4
  exact h4⟩
 exact⟨(⟨c.Frames,c.CJ,c.Kernel,c.Room,⟨aC,cC,csG⟩,⟨aP,cP,psG⟩,⟨ax45,cp46,([]++c.Ag.xs)⟩⟩:Aj),by simp only[Aj.arr,hcl,hpl],ZcA ⟨rfl,rfl,rfl,rfl⟩ hcl hpl rfl (fun q hq=>hc1 q (by omega)) (fun q hq=>hp1 q (by omega)),hz ▸ hO,AO hw49⟩
open Go.ChangeShapes Go.WideShapes Go.Deep
theorem rd_TWindow:Rd Tryd.prog 44 Au.cells Au.ok:=by
 intro H enc W fuel cs x hx hw
 obtain⟨xs,n, -,rfl,hl,hlen,hf⟩:=DataW.trod_struct Tryd.underlying44 hx
 rw[show Tryd.prog.cellsOf 44=3 from by kernel_rfl]at hl
 match cs,hl with
 | [c0,c1,c2],_ =>
  obtain⟨y0,e0,k0⟩:=GN Tryd.underlying44 hlen hf hw 0 0 1 _ rfl rfl (by kernel_rfl) (KD Tryd.underlying3)
  have g0:[c0]=_:=e0
  simp only[List.cons.injEq,and_true]at g0
  subst g0
  obtain⟨y1,e1,k1⟩:=GN Tryd.underlying44 hlen hf hw 1 1 1 _ rfl rfl (by kernel_rfl) (KD Tryd.underlying3)
  have g1:[c1]=_:=e1
  simp only[List.cons.injEq,and_true]at g1
  subst g1
  obtain⟨y2,e2,k2⟩:=GN Tryd.underlying44 hlen hf hw 2 2 1 _ rfl rfl (by kernel_rfl) (KD Tryd.underlying3)
  have g2:[c2]=_:=e2
  simp only[List.cons.injEq,and_true]at g2
  subst g2
  exact⟨⟨y0,y1,y2⟩,rfl,⟨k0,k1,k2⟩⟩
theorem rd_TRegion:Rd Tryd.prog 49 A8.cells A8.ok:=by
 intro H enc W fuel cs x hx hw
 obtain⟨xs,n, -,rfl,hl,hlen,hf⟩:=DataW.trod_struct Tryd.underlying49 hx
 rw[show Tryd.prog.cellsOf 49=4 from by kernel_rfl]at hl
 match cs,hl with
 | [c0,c1,c2,c3],_ =>
  obtain⟨y0,e0,k0⟩:=GN Tryd.underlying49 hlen hf hw 0 0 1 _ rfl rfl (by kernel_rfl) (KD Tryd.underlying3)
  have g0:[c0]=_:=e0
  simp only[List.cons.injEq,and_true]at g0
  subst g0
  obtain⟨y1,e1,k1⟩:=GN Tryd.underlying49 hlen hf hw 1 1 1 _ rfl rfl (by kernel_rfl) (KD Tryd.underlying3)
  have g1:[c1]=_:=e1
  simp only[List.cons.injEq,and_true]at g1
  subst g1
  obtain⟨y2,e2,k2⟩:=GN Tryd.underlying49 hlen hf hw 2 2 1 _ rfl rfl (by kernel_rfl) (KD Tryd.underlying3)
  have g2:[c2]=_:=e2
  simp only[List.cons.injEq,and_true]at g2
  subst g2
  obtain⟨y3,e3,k3⟩:=GN Tryd.underlying49 hlen hf hw 3 3 1 _ rfl rfl (by kernel_rfl) (KD Tryd.underlying3)
  have g3:[c3]=_:=e3
  simp only[List.cons.injEq,and_true]at g3
  subst g3
  exact⟨⟨y0,y1,y2,y3⟩,rfl,⟨k0,k1,k2,k3⟩⟩
theorem rd_TPort:Rd Tryd.prog 57 Bh.cells Bh.ok:=by
 intro H enc W fuel cs x hx hw
 obtain⟨xs,n, -,rfl,hl,hlen,hf⟩:=DataW.trod_struct Tryd.underlying57 hx
 rw[show Tryd.prog.cellsOf 57=2 from by kernel_rfl]at hl
 match cs,hl with
 | [c0,c1],_ =>
  obtain⟨y0,e0,k0⟩:=GN Tryd.underlying57 hlen hf hw 0 0 1 _ rfl rfl (by kernel_rfl) (KD Tryd.underlying3)
  have g0:[c0]=_:=e0
  simp only[List.cons.injEq,and_true]at g0
  subst g0
  obtain⟨y1,e1,k1⟩:=GN Tryd.underlying57 hlen hf hw 1 1 1 _ rfl rfl (by kernel_rfl) (rd_bool Tryd.underlying4)
  have g1:[c1]=_:=e1
  simp only[List.cons.injEq,and_true]at g1
  subst g1
  exact⟨⟨y0,y1⟩,rfl,⟨k0,k1⟩⟩
theorem ZcS:Rd Tryd.prog 55 AL.cells AL.ok:=by
 intro H enc W fuel cs x hx hw
 obtain⟨xs,n, -,rfl,hl,hlen,hf⟩:=DataW.trod_struct Tryd.underlying55 hx
 rw[show Tryd.prog.cellsOf 55=3 from by kernel_rfl]at hl
 match cs,hl with
 | [c0,c1,c2],_ =>
  obtain⟨y0,e0,k0⟩:=GN Tryd.underlying55 hlen hf hw 0 0 1 _ rfl rfl (by kernel_rfl) (KD Tryd.underlying3)
  have g0:[c0]=_:=e0
  simp only[List.cons.injEq,and_true]at g0
  subst g0
  obtain⟨y1,e1,k1⟩:=GN Tryd.underlying55 hlen hf hw 1 1 1 _ rfl rfl (by kernel_rfl) (KD Tryd.underlying3)
  have g1:[c1]=_:=e1
  simp only[List.cons.injEq,and_true]at g1
  subst g1
  obtain⟨y2,e2,k2⟩:=GN Tryd.underlying55 hlen hf hw 2 2 1 _ rfl rfl (by kernel_rfl) (KD Tryd.underlying3)
  have g2:[c2]=_:=e2
  simp only[List.cons.injEq,and_true]at g2
  subst g2
  exact⟨⟨y0,y1,y2⟩,rfl,⟨k0,k1,k2⟩⟩
theorem rd_PartB:Rd Tryd.prog 41 Ap.cells (fun F W x=>Ap.ok F W x∧x.Af.xs.length*Tryd.prog.bytesOf 49≤reachBytes∧x.Am.xs.length*Tryd.prog.bytesOf 57≤reachBytes):=by
 intro H enc W fuel cs x hx hw
 obtain⟨xs,n, -,rfl,hl,hlen,hf⟩:=DataW.trod_struct Tryd.underlying41 hx
 rw[show Tryd.prog.cellsOf 41=8 from by kernel_rfl]at hl
 match cs,hl with
 | [c0,c1,c2,c3,c4,c5,c6,c7],_ =>
  obtain⟨y0,e0,k0⟩:=GN Tryd.underlying41 hlen hf hw 0 0 1 _ rfl rfl (by kernel_rfl) (rd_string Tryd.underlying9)
  have g0:[c0]=_:=e0
  simp only[List.cons.injEq,and_true]at g0
  subst g0
  obtain⟨y1,e1,k1⟩:=GN Tryd.underlying41 hlen hf hw 1 1 1 _ rfl rfl (by kernel_rfl) (KD Tryd.underlying3)
  have g1:[c1]=_:=e1
  simp only[List.cons.injEq,and_true]at g1
  subst g1
  obtain⟨y2,e2,k2⟩:=GN Tryd.underlying41 hlen hf hw 2 2 1 _ rfl rfl (by kernel_rfl) (KD Tryd.underlying3)
  have g2:[c2]=_:=e2
  simp only[List.cons.injEq,and_true]at g2
  subst g2
  obtain⟨y3,e3,k3⟩:=GN Tryd.underlying41 hlen hf hw 3 3 1 _ rfl rfl (by kernel_rfl) (KD Tryd.underlying3)
  have g3:[c3]=_:=e3
  simp only[List.cons.injEq,and_true]at g3
  subst g3
  obtain⟨y4,e4,k4⟩:=GN Tryd.underlying41 hlen hf hw 4 4 1 _ rfl rfl (by kernel_rfl) (KD Tryd.underlying3)
  have g4:[c4]=_:=e4
  simp only[List.cons.injEq,and_true]at g4
  subst g4
  obtain⟨y5,e5,k5⟩:=GN Tryd.underlying41 hlen hf hw 5 5 1 _ rfl rfl (by kernel_rfl) (KD Tryd.underlying3)
  have g5:[c5]=_:=e5
  simp only[List.cons.injEq,and_true]at g5
  subst g5
  obtain⟨y6,e6,k6⟩:=GN Tryd.underlying41 hlen hf hw 6 6 1 _ rfl rfl (by kernel_rfl) (Rq (cells:=A8.cells) (sz:=4) Tryd.underlying38 (by kernel_rfl) (fun _=>rfl) (by decide) (by kernel_rfl) rd_TRegion)
  have g6:[c6]=_:=e6
  simp only[List.cons.injEq,and_true]at g6
  subst g6
  obtain⟨y7,e7,k7⟩:=GN Tryd.underlying41 hlen hf hw 7 7 1 _ rfl rfl (by kernel_rfl) (Rq (cells:=Bh.cells) (sz:=2) Tryd.underlying39 (by kernel_rfl) (fun _=>rfl) (by decide) (by kernel_rfl) rd_TPort)
  have g7:[c7]=_:=e7
  simp only[List.cons.injEq,and_true]at g7
  subst g7
  exact⟨⟨y0,y1,y2,y3,y4,y5,y6,y7⟩,rfl,⟨⟨k0,k1,k2,k3,k4,k5,k6.1,k7.1⟩,k6.2,k7.2⟩⟩
theorem rd_Conf:Rd Tryd.prog 26 Aj.cells (fun F W x=>Aj.ok F W x∧TD x):=by
 intro H enc W fuel cs x hx hw
 obtain⟨xs,n, -,rfl,hl,hlen,hf⟩:=DataW.trod_struct Tryd.underlying26 hx
 rw[show Tryd.prog.cellsOf 26=7 from by kernel_rfl]at hl
 match cs,hl with
 | [c0,c1,c2,c3,c4,c5,c6],_ =>
  obtain⟨y0,e0,k0⟩:=GN Tryd.underlying26 hlen hf hw 0 0 1 _ rfl rfl (by kernel_rfl) (KD Tryd.underlying3)
  have g0:[c0]=_:=e0
  simp only[List.cons.injEq,and_true]at g0
  subst g0
  obtain⟨y1,e1,k1⟩:=GN Tryd.underlying26 hlen hf hw 1 1 1 _ rfl rfl (by kernel_rfl) (KD Tryd.underlying3)
  have g1:[c1]=_:=e1
  simp only[List.cons.injEq,and_true]at g1
  subst g1
  obtain⟨y2,e2,k2⟩:=GN Tryd.underlying26 hlen hf hw 2 2 1 _ rfl rfl (by kernel_rfl) (KD Tryd.underlying3)
  have g2:[c2]=_:=e2
  simp only[List.cons.injEq,and_true]at g2
  subst g2
  obtain⟨y3,e3,k3⟩:=GN Tryd.underlying26 hlen hf hw 3 3 1 _ rfl rfl (by kernel_rfl) (KD Tryd.underlying3)
  have g3:[c3]=_:=e3
  simp only[List.cons.injEq,and_true]at g3
  subst g3
  obtain⟨y4,e4,k4⟩:=GN Tryd.underlying26 hlen hf hw 4 4 1 _ rfl rfl (by kernel_rfl) (Rq (cells:=(fun x:Sl Au=>[Sl.val x])) (sz:=1) Tryd.underlying22 (by kernel_rfl) (fun _=>rfl) (by decide) (by kernel_rfl) (Rq (cells:=Au.cells) (sz:=3) Tryd.underlying42 (by kernel_rfl) (fun _=>rfl) (by decide) (by kernel_rfl) rd_TWindow))
  have g4:[c4]=_:=e4
  simp only[List.cons.injEq,and_true]at g4
  subst g4
  obtain⟨y5,e5,k5⟩:=GN Tryd.underlying26 hlen hf hw 5 5 1 _ rfl rfl (by kernel_rfl) (Rq (cells:=Ap.cells) (sz:=8) Tryd.underlying23 (by kernel_rfl) (fun _=>rfl) (by decide) (by kernel_rfl) rd_PartB)
  have g5:[c5]=_:=e5
  simp only[List.cons.injEq,and_true]at g5
  subst g5
  obtain⟨y6,e6,k6⟩:=GN Tryd.underlying26 hlen hf hw 6 6 1 _ rfl rfl (by kernel_rfl) (Rq (cells:=AL.cells) (sz:=3) Tryd.underlying24 (by kernel_rfl) (fun _=>rfl) (by decide) (by kernel_rfl) ZcS)
  have g6:[c6]=_:=e6
  simp only[List.cons.injEq,and_true]at g6
  subst g6
  exact⟨⟨y0,y1,y2,y3,y4,y5,y6⟩,rfl,⟨⟨k0,k1,k2,k3,⟨k4.1.1,fun i hi=>(k4.1.2 i hi).1⟩,⟨k5.1.1,fun i hi=>(k5.1.2 i hi).1⟩,k6.1⟩,⟨by have h:=k4.2;rw[(show Tryd.prog.bytesOf 42=24 from by kernel_rfl)]at h;exact h,by have h:=k5.2;rw[(show Tryd.prog.bytesOf 41=104 from by kernel_rfl)]at h;exact h,by have h:=k6.2;rw[(show Tryd.prog.bytesOf 55=24 from by kernel_rfl)]at h;exact h,fun i hi=>by have h:=(k4.1.2 i hi).2;rw[(show Tryd.prog.bytesOf 44=24 from by kernel_rfl)]at h;exact h,fun i hi=>by have h:=(k5.1.2 i hi).2.1;rw[(show Tryd.prog.bytesOf 49=32 from by kernel_rfl)]at h;exact h,fun i hi=>by have h:=(k5.1.2 i hi).2.2;rw[(show Tryd.prog.bytesOf 57=16 from by kernel_rfl)]at h;exact h⟩⟩⟩
theorem TD.sum{c:Aj}(h:TD c):c.Aa.xs.length+c.Ag.xs.length+c.Aq.xs.length≤15000000000000:=by
 have h1:=h.cl;have h2:=h.pl;have h3:=h.hl
 omega
end Go.Proofs.YtnjhekfgmbpmlaaDoor.Ad
namespace Go.Proofs.YtnjhekfgmbpmlaaDoor.Eng
open Go Go.Proofs.YtnjhekfgmbpmlaaDoor.Mem
set_option linter.unusedSimpArgs false
set_option linter.unusedVariables false
theorem ZcQ{P:Program}(w:World)(dT sT ty elem:TypeId)(g dLen dCap sz:Nat)(a:Addr)(sLen sCap:Nat)(cur:Array Value)(t:TypeId)(cs:List Value)
   (hu:P.underlying dT=some (.slice elem)) (hs:(P.info? elem).map (·.size)=some sz)
   (hg:w.heap[g]? = some (.cells cur t (0,0))) (hn:cs.length=Nat.min sLen dLen*sz)
   (hsrc:∀ j v,cs[j]? = some v→w.cell? (a.add j)=some v) (hfit:0+cs.length≤cur.size) (h1:∀ v∈cs,v.oneCell'=true) :
   (Builtin.copy_ #[dT,sT] ty #[.slice (some ⟨g,0,none⟩) dLen dCap,.slice (some a) sLen sCap]).run P w =
     .ok (goInt (Nat.min sLen dLen)) (w.setRow g (cur.toList.take 0++cs++cur.toList.drop (0+cs.length)).toArray):=by
 have hl:=run_loadCells_list (P:=P) w a cs hsrc
 have hst:=run_storeCells_at P g 0 t cs 0 cur w hg (by simpa using hfit) h1
 cases hq:P.info? elem with
 | none=>simp[hq]at hs
 | some i =>
   have hi:i.size=sz:=by simpa[hq]using hs
   simp[Builtin.copy_,run_underlying hu,Builtin.lenOf,Builtin.firstCells,sizeOf,typeInfo,hq,hi,←hn,hl]at hst ⊢
   simp[hst]
theorem Zb6{P:Program}(w:World)(dT sT ty elem:TypeId)(g dLen dCap:Nat)(a:Option Addr)(sCap:Nat)(hu:P.underlying dT=some (.slice elem))(hs:((P.info? elem).map (·.size)).isSome=true) :
   (Builtin.copy_ #[dT,sT] ty #[.slice (some ⟨g,0,none⟩) dLen dCap,.slice a 0 sCap]).run P w = .ok (goInt 0) w:=by
 cases hq:P.info? elem with
 | none=>simp[hq]at hs
 | some i =>
   have hl:∀ (x:Addr),(loadCells x 0).run P w = .ok #[] w:=fun x=>by simpa using run_loadCells_list (P:=P) w x [] (by simp)
   cases a <;> simp[Builtin.copy_,run_underlying hu,Builtin.lenOf,Builtin.firstCells,sizeOf,typeInfo,hq,storeCells,hl]
section
variable {P:Program}{N:Nat}{env:Env}{ds:List Deferred}{A:AW}{ops:Array Oper}{l:List Oper}{s:List Kt}{Q:Exit→Act→World→Prop}
def copyN(P:Program)(N:Nat)(ops:Array Oper)(env:Env)(o:Oper):Option (TypeId×Nat×Nat×Nat×Nat×Option Addr×Nat×Nat):=match ZbW o,Ox ops env o,Lt env o,Ov N o.dst with
 | some (x,y,t,_),some true,true,true=>match P.underlying t,IG env x,IG env y with
  | some (.slice e),.slice (some ⟨g,0,none⟩) n c,.slice ya m cp=>match P.info? e with
   | some f=>some (e,f.size,g,n,c,ya,m,cp)
   | none=>none
  | _,_,_=>none
 | _,_,_,_=>none
theorem Zl{α:Type}{cells:α→List Value}{sz:Nat}(hsz:∀ x,(cells x).length=sz):∀ zs:List α,(zs.flatMap cells).length=zs.length*sz
 | []=>by simp
 | z :: zs=>by rw[List.flatMap_cons,List.length_append,hsz,Zl hsz zs,List.length_cons,Nat.succ_mul];omega
theorem Zbh{α:Type}{cells:α→List Value}{sz:Nat}(hsz:∀ x,(cells x).length=sz):∀ (zs:List α) (m:Nat),(zs.drop m).flatMap cells=(zs.flatMap cells).drop (m*sz)
 | zs,0=>by simp
 | [],m+1=>by simp
 | z :: zs,m+1=>by
  have h1:(cells z).length≤(m+1)*sz:=by rw[hsz,Nat.succ_mul];omega
  have h2:(m+1)*sz - (cells z).length=m*sz:=by rw[hsz,Nat.succ_mul];omega
  rw[List.drop_succ_cons,Zbh hsz zs m,List.flatMap_cons]
  rw[List.drop_append,List.drop_eq_nil_of_le h1,h2,List.nil_append]
theorem copyN_run{α:Type}{base:Nat}{o:Oper}{e:TypeId}{sz g n c' m cp:Nat}{ya:Option Addr}(h:copyN P N ops env o=some (e,sz,g,n,c',ya,m,cp)){i:Nat}{cells:α→List Value}{xs ys:List α}{a:Act}{w:World}(hst:St N env ds A a w)
   (hi:A.σ[i]? = some (BJ base e sz cells (.slice (some ⟨g,0,none⟩) n c') xs)) (hsz:∀ x,(cells x).length=sz) (h1:∀ x,∀ u∈cells x,u.oneCell'=true) (hd:KU cells sz Any w ⟨ya,cp,ys⟩) (hm:ys.length=m) (hn:xs.length=n) (hmn:m≤n) :
   Region.wanted o (yielded ops a.tmps)=true∧Ov N o.dst=true∧∃ w',(execOp a.eval o).run P w = .ok (.value (.int .i64 (m:Int))) w'∧A.n≤w'.heap.size∧Sat { A with n:=w'.heap.size,σ:=A.σ.set i (BJ base e sz cells (.slice (some ⟨g,0,none⟩) n c') (ys++xs.drop m)) } w':=by
 unfold copyN at h
 split at h
 · rename_i x y t u hop0 hw hk hd0
   have hop:=Zde hop0
   split at h
   · rename_i e' g' n' c2 ya' m' cp' ht hx hy
     split at h
     · rename_i f' hf
       simp only[Option.some.injEq,Prod.mk.injEq]at h
       obtain⟨rfl,rfl,rfl,rfl,rfl,rfl,rfl,rfl⟩:=h
       refine⟨Hm hw hst,hd0, ?_⟩
       rw[JG hst hk]
       have hinfo:(P.info? e').map (·.size)=some f'.size:=by rw[hf];rfl
       by_cases h0:ys=[]
       · subst h0
         have hm0:m'=0:=by simpa using hm.symm
         subst hm0
         refine⟨w, ?_,by rw[hst.mem.size];exact Nat.le_refl _, ?_⟩
         · unfold execOp
           simp only[hop,resolve,invoke,builtin,Sem.run_bind,Sem.run_pure,Result.andThen_ok,List.map_toArray,List.map_cons,List.map_nil,hy,hx,Zb6 (P:=P) w t u o.type e' g' n' c2 ya' cp' ht (by rw[hinfo];rfl)]
           rfl
         · rw[hst.mem.size,List.nil_append,List.drop_zero]
           obtain⟨hlt,hix⟩:=List.getElem?_eq_some_iff.1 hi
           rw[←hix,List.set_getElem_self];exact hst.mem
       · obtain⟨b,off,ha, -, -⟩:=hd.cells h0
         simp only at ha
         subst ha
         have hown:w.ownsRow base e' f'.size (.slice (some ⟨g',0,none⟩) n' c2) xs.length (xs.flatMap cells):=hst.mem.at hi
         rcases hown.2 with⟨h2,h3⟩ | ⟨g2,cap2,cur,h2,hbg,hg,hnc,hcm,hcs,htake⟩
         · cases h2
         · cases h2
           have hcl:(ys.flatMap cells).length=m' * f'.size:=by rw[Zl hsz,hm]
           have hmin:Nat.min m' xs.length=m':=Nat.min_eq_left hmn
           have hms:m' * f'.size≤xs.length*f'.size:=Nat.mul_le_mul_right _ hmn
           have hns:xs.length*f'.size≤cur.size:=by rw[hcs];exact Nat.mul_le_mul_right _ hnc
           have hr:=ZcQ (P:=P) w t u o.type e' g' xs.length c2 f'.size ⟨b,off,none⟩ m' cp' cur e' (ys.flatMap cells) ht hinfo hg (by rw[hcl,hmin]) (Zdk hsz hd rfl) (by rw[hcl];omega) (fun v hv=>by
             obtain⟨q, -,hq⟩:=List.mem_flatMap.1 hv
             exact h1 q v hq)
           rw[hmin]at hr
           have hk':CP (fun k=>k=g') w (w.setRow g' (cur.toList.take 0++ys.flatMap cells++cur.toList.drop (0+(ys.flatMap cells).length)).toArray) :=
             ⟨rfl,rfl,rfl,by simp[World.setRow],fun k _ hkg=>setRow_other w g' k _ hkg⟩
           have hlen:(ys++xs.drop m').length=xs.length:=by rw[List.length_append,List.length_drop,hm];omega
           have ho:(w.setRow g' (cur.toList.take 0++ys.flatMap cells++cur.toList.drop (0+(ys.flatMap cells).length)).toArray).ownsRow base e' f'.size (.slice (some ⟨g',0,none⟩) xs.length c2) (ys++xs.drop m').length ((ys++xs.drop m').flatMap cells):=by
             refine⟨by rw[Zl hsz],.inr ⟨g',c2,_,by rw[hlen],hbg,setRow_heap w g' cur _ e' _ hg,by omega,hcm, ?_, ?_⟩⟩
             · simp only[List.size_toArray,List.length_append,List.length_take,List.length_drop,Array.length_toList,hcl]
               omega
             · rw[hlen,List.flatMap_append,Zbh hsz]
               simp only[List.take_zero,List.nil_append,Nat.zero_add]
               rw[hcl,List.take_append,List.take_of_length_le (by rw[hcl];exact hms),hcl,←htake,List.drop_take]
           refine⟨_, ?_,by rw[←hst.mem.size];exact hk'.size, ?_⟩
           · unfold execOp
             simp only[hop,resolve,invoke,builtin,Sem.run_bind,Sem.run_pure,Result.andThen_ok,List.map_toArray,List.map_cons,List.map_nil,hy,hx,hr]
             rfl
           · exact hst.mem.growN hi rfl rfl ⟨hk'.os,hk'.tape,hk'.output,hk'.size,fun b hb hS=>hk'.block b hb (fun e1=>hS (by rw[e1];rfl))⟩ ho (MP _ _ _ _ _ _) (fun b hb=> .inl hb) (fun b hb=>(ho.lt b hb).2)
     · cases h
   · cases h
 · cases h
theorem Yp{α:Type}(base i k:Nat)(xs ys:List α)(ya:Option Addr)(cells:α→List Value)(e:TypeId)(sz g n c' m cp:Nat)(c0:Ch)(d:Option Nat)(hn:xs.length=n)(hmn:m≤n)(hd:∀ w',c0.holds w'→KU cells sz Any w' ⟨ya,cp,ys⟩)
   (K:∀ n',A.n≤n'→Lg P N (IE env d (.int .i64 (m:Int))) ds { A with n:=n',σ:=A.σ.set i (BJ base e sz cells (.slice (some ⟨g,0,none⟩) n c') (ys++xs.drop m)) } ops (l.drop 1) s Q)
   (hm:ys.length=m:=by rfl) (h:(match l with | o :: _=>(copyN P N ops env o).map (fun x=>(x,o.dst)) | []=>none)=some ((e,sz,g,n,c',ya,m,cp),d):=by as_aux_lemma=>kernel_rfl) (hi:A.σ[i]? = some (BJ base e sz cells (.slice (some ⟨g,0,none⟩) n c') xs):=by rfl) (hk:A.σ[k]? = some c0:=by rfl) (hsz:∀ x,(cells x).length=sz:=by intro _;rfl) (h1:∀ x,(cells x).all Value.oneCell'=true:=by intro _;rfl):Lg P N env ds A ops l s Q:=by
 intro a w hst
 cases l with
 | nil=>cases h
 | cons o l =>
   simp only[Option.map_eq_some_iff]at h
   obtain⟨y,hy,h⟩:=h
   simp only[Prod.mk.injEq]at h
   obtain⟨rfl,rfl⟩:=h
   obtain⟨hw,hdst,w',hr,hsz',hs'⟩:=copyN_run (xs:=xs) (ys:=ys) hy hst hi hsz (fun x u hu=>List.all_eq_true.1 (h1 x) u hu) (hd w (hst.mem.at hk)) hm hn hmn
   refine MV hw (.inl hr) ?_
   exact K _ hsz' _ _ (hst.put hs' _ hdst _)
theorem e_blkrow{α:Type}{x:Exit}(i b base:Nat)(e:TypeId)(sz:Nat)(cells:α→List Value)(xs:List α)(cs:Array Value)(hb:base≤b)(K:E P N env ds { A with σ:=A.σ.set i (BJ base e sz cells (.slice (some ⟨b,0,none⟩) xs.length xs.length) xs) } x s Q)(hi:A.σ[i]? = some (.blk b (.cells cs e (0,0)) true):=by rfl)(hx:xs.flatMap cells=cs.toList:=by rfl)(hl:cs.size=xs.length*sz:=by rfl)(hm:Nat.ble xs.length 1000=true:=by rfl):E P N env ds A x s Q :=
 fun a w hst=>K a w ⟨hst.sz,hst.df,hst.kn,hst.mem.ZbR hi hx hl hb (Nat.le_trans (Nat.le_of_ble_eq_true hm) (by decide))⟩
theorem WN{α:Type}{σC:List Ch}{late fuel:Nat}{listed:List Bool}{p:Nat}(base i j:Nat)(xs ys:List α)(cells:α→List Value)(e:TypeId)(sz by':Nat)(v:Value)(b m cp:Nat)(cs:Array Value)(t:TypeId)(fr:Nat×Nat)(rw':Bool)(d:Option Nat)(cix:List Nat)
   (h63:xs.length+ys.length≤281474976710656) (hbytes:(xs.length+ys.length)*by'≤140737488355328) (hbase:base≤A.n)
   (hC:Nat.beq p late=true∨(picks cix A.σ=some σC∧cix.contains i=false))
   (K:∀ a' cap' n',A.n≤n'→Wg P N (IE env d (.slice a' (xs++ys).length cap')) ds { A with n:=n',σ:=A.σ.set i (BJ base e sz cells (.slice a' (xs++ys).length cap') (xs++ys)) } ops σC late fuel (listed.set p true) s Q)
   (hp:Nat.blt p listed.length=true:=by rfl)
   (h:(match ops[p]? with | some o=>(Zg P N ops env o).map (fun x=>(x,o.dst)) | none=>none)=some ((e,sz,by',v,⟨b,0,none⟩,m,cp),d):=by as_aux_lemma=>kernel_rfl) (hi:A.σ[i]? = some (BJ base e sz cells v xs):=by rfl) (hj:A.σ[j]? = some (.blk b (.cells cs t fr) rw'):=by rfl) (hn:cs.toList=ys.flatMap cells:=by rfl) (hm:ys.length=m:=by rfl)
   (hl:Nat.beq (ys.flatMap cells).length (ys.length*sz)=true:=by as_aux_lemma=>kernel_rfl) (h1:(ys.flatMap cells).all Value.oneCell'=true:=by as_aux_lemma=>kernel_rfl):WO P N env ds A ops σC late fuel listed s Q p:=by
 intro a w hst hcl
 have hlt:p<listed.length:=by simpa using hp
 subst hm
 split at h
 · rename_i o ho
   simp only[Option.map_eq_some_iff]at h
   obtain⟨y,hy,h⟩:=h
   simp only[Prod.mk.injEq]at h
   obtain⟨rfl,rfl⟩:=h
   obtain⟨hw,hd,a',cap',w',hr,hsz,hs'⟩:=Ze (xs:=xs.flatMap cells) (news:=ys.flatMap cells) hy hst hi (Nat.eq_of_beq_eq_true hl) h1 (Zd hst.mem hj hn) (by unfold maxLen;omega) hbytes hbase
   rw[←List.length_append]at hr
   unfold wpOp
   simp only[ho]
   rw[if_pos hw]
   left
   unfold Oper.wp
   rw[hr]
   rw[TF,←List.length_append]at hs'
   have hcs:(listed.set p true).toArray.getD late false=false→Cs σC w':=by
     intro hl
     rcases hC with hC | ⟨hC,hci⟩
     · have:=Nat.eq_of_beq_eq_true hC
       subst this
       simp[hlt]at hl
     · intro c hc
       obtain⟨q,hq,hqs⟩:=OU hC c hc
       have hqi:i≠q:=fun e1=>by subst e1;simp[hq]at hci
       refine hs'.all c (List.mem_of_getElem? (i:=q) ?_)
       show(A.σ.set i _)[q]? = some c
       rw[List.getElem?_set_ne hqi];exact hqs
   exact⟨hcs,K a' cap' _ hsz _ _ (hst.put hs' _ hd _) hcl hcs⟩
 · cases h
end
end Go.Proofs.YtnjhekfgmbpmlaaDoor.Eng
namespace Go.Proofs.YtnjhekfgmbpmlaaDoor.Ad
open Go Go.Proofs.YtnjhekfgmbpmlaaDoor.Eng Go.Proofs.YtnjhekfgmbpmlaaDoor.Mem Go.Proofs.YtnjhekfgmbpmlaaDoor.Ly
set_option linter.unusedSimpArgs false
set_option linter.unusedVariables false
set_option maxRecDepth 100000
structure Hf where
 C:Aj
 channels:Sl AL
 He:Sl (Sl Au)
 windows:Sl (Sl Au)
 partitions:Sl Ap
 regions:Sl (Sl A8)
 Gp:Sl (Sl Bh)
 deriving Inhabited
def Hf.cells(x:Hf):List Value:=Aj.cells x.C++[x.channels.val]++[x.He.val]++[x.windows.val]++[x.partitions.val]++[x.regions.val]++[x.Gp.val]
abbrev Hf.arr(x:Hf):Array Value:= #[.int .i64 x.C.Frames,.int .i64 x.C.CJ,.int .i64 x.C.Kernel,.int .i64 x.C.Room,.slice x.C.Aq.a x.C.Aq.xs.length x.C.Aq.cap,.slice x.C.Aa.a x.C.Aa.xs.length x.C.Aa.cap,.slice x.C.Ag.a x.C.Ag.xs.length x.C.Ag.cap,.slice x.channels.a x.channels.xs.length x.channels.cap,.slice x.He.a x.He.xs.length x.He.cap,.slice x.windows.a x.windows.xs.length x.windows.cap,.slice x.partitions.a x.partitions.xs.length x.partitions.cap,.slice x.regions.a x.regions.xs.length x.regions.cap,.slice x.Gp.a x.Gp.xs.length x.Gp.cap]
def DD(n:Nat):AL:=⟨n, -(n:Int),n⟩
def Dq(n:Nat):Au:=⟨-(n:Int),n, -(n:Int)⟩
def Ez(n:Nat):A8:=⟨-(n:Int),n, -(n:Int),n⟩
def EG(n:Nat):Bh:=⟨-(n:Int),false⟩
def DV(n:Nat):Ap:=⟨⟨#[]⟩, -1000 - (n:Int),0,0,0,0,⟨none,0,[]⟩,⟨none,0,[]⟩⟩
def wid{α:Type}(f:Nat→α)(xs:List α):List α:=xs++((List.range (xs.length+24)).map f).drop xs.length
def Eg{α:Type}(f:Nat→α)(z:α)(n k:Nat):List α:=(List.range n).map fun q=>if q<k then f q else z
section
variable {α:Type}{f:Nat→α}{z:α}{n k:Nat}
theorem Gg:(Eg f z n k).length=n:=by simp[Eg]
theorem Zh:Eg f z n 0=List.replicate n z:=by
 apply List.ext_getElem (by simp[Eg])
 intro i h1 h2
 simp[Eg]
theorem ZaX(hk:k<n):(Eg f z n k).set k (f k)=Eg f z n (k+1):=by
 apply List.ext_getElem (by simp[Eg])
 intro i h1 h2
 rw[List.getElem_set]
 simp only[Eg,List.getElem_map,List.getElem_range]
 by_cases e:k=i
 ·subst e;rw[if_pos rfl,if_pos (by omega)]
 rw[if_neg e]
 by_cases e2:i<k
 ·rw[if_pos e2,if_pos (by omega)]
 rw[if_neg e2,if_neg (by omega)]
theorem fil_all:Eg f z n n=(List.range n).map f:=by
 apply List.ext_getElem (by simp[Eg])
 intro i h1 h2
 simp only[Eg,List.getElem_map,List.getElem_range]
 rw[if_pos (by simpa[Eg]using h1)]
theorem Nc{xs:List α}:(wid f xs).length=xs.length+24:=by simp[wid]
theorem WU{xs:List α}:(wid f xs).take xs.length=xs:=by unfold wid;exact List.take_left
end
theorem Zz{α:Type}{a:Option Addr}{n cap:Nat}{xs:List α}(h:n=xs.length):(#[Value.slice a n cap]:Array Value).toList=[(⟨a,cap,xs⟩:Sl α)].flatMap (fun x=>[Sl.val x]):=by subst h;rfl
theorem map_snoc{α:Type}(f:Nat→α)(n:Nat):(List.range (n+1)).map f=(List.range n).map f++[f n]:=by rw[List.range_succ,List.map_append];rfl
theorem YT(w:World)(n:Nat)(hn:n≤281474976710656):Calls Tryd.prog 15 #[.int .i64 (n:Int)] w fun e w'=>e = .returned (.agg (AL.arr (DD n)))∧CP (fun _=>False) w w':=by
 obtain⟨z,hz⟩:∃ z,z=w.heap.size:=⟨_,rfl⟩
 refine CE (args:=[(Ac n)]) 8 ⟨w,z,[(Ak w)]⟩ Tryd.func15 rfl (by kernel_rfl) (by kernel_rfl) (Ep hz) ?_
 refine DC [0] [(0,Ac n)] ?_
 refine q_c 9 0 [] [[o0],[o0,o0,(ov (i6 (-(n:Int)))),o0,o0,(an 3 1)]] [Wr ((0:Int) - (n:Int)) (-(n:Int)),Qb z,Qb z,Qb z] [(2,pt z)] ⟨w,z+1,[(Ak w),(bk z #[(Ac n),i6 (-(n:Int)),Ac n] 55)]⟩ rfl ⟨BQ,rfl,rfl,rfl,Ae⟩ ?_
 refine AA [.at 1,.at 1,.at 1] [Qb z,Qb z,Qb z] (.agg #[(Ac n),i6 (-(n:Int)),Ac n]) ⟨rfl,rfl,rfl,Ae⟩ ?_
 intro w1 hw1
 exact⟨rfl,AO hw1⟩
theorem Tn(w:World)(n:Nat)(hn:n≤281474976710656):Calls Tryd.prog 17 #[.int .i64 (n:Int)] w fun e w'=>e = .returned (.agg (Au.arr (Dq n)))∧CP (fun _=>False) w w':=by
 obtain⟨z,hz⟩:∃ z,z=w.heap.size:=⟨_,rfl⟩
 refine CE (args:=[(Ac n)]) 9 ⟨w,z,[(Ak w)]⟩ Tryd.func17 rfl (by kernel_rfl) (by kernel_rfl) (Ep hz) ?_
 refine DC [0] [(0,Ac n)] ?_
 refine q_c 9 0 [] [[o0],[o0,(ov (i6 (-(n:Int)))),o0,o0,(ov (i6 (-(n:Int)))),o0,(an 3 1)]] [Wr ((0:Int) - (n:Int)) (-(n:Int)),Wr ((0:Int) - (n:Int)) (-(n:Int)),Qb z,Qb z,Qb z] [(2,pt z)] ⟨w,z+1,[(Ak w),(bk z #[i6 (-(n:Int)),Ac n,i6 (-(n:Int))] 44)]⟩ rfl ⟨BQ,BQ,rfl,rfl,rfl,Ae⟩ ?_
 refine AA [.at 1,.at 1,.at 1] [Qb z,Qb z,Qb z] (.agg #[i6 (-(n:Int)),Ac n,i6 (-(n:Int))]) ⟨rfl,rfl,rfl,Ae⟩ ?_
 intro w1 hw1
 exact⟨rfl,AO hw1⟩
theorem YS(w:World)(n:Nat)(hn:n≤281474976710656):Calls Tryd.prog 19 #[.int .i64 (n:Int)] w fun e w'=>e = .returned (.agg (A8.arr (Ez n)))∧CP (fun _=>False) w w':=by
 obtain⟨z,hz⟩:∃ z,z=w.heap.size:=⟨_,rfl⟩
 refine CE (args:=[(Ac n)]) 10 ⟨w,z,[(Ak w)]⟩ Tryd.func19 rfl (by kernel_rfl) (by kernel_rfl) (Ep hz) ?_
 refine DC [0] [(0,Ac n)] ?_
 refine q_c 9 0 [] [[o0],[o0,(ov (i6 (-(n:Int)))),o0,o0,(ov (i6 (-(n:Int)))),o0,o0,(an 4 1)]] [Wr ((0:Int) - (n:Int)) (-(n:Int)),Wr ((0:Int) - (n:Int)) (-(n:Int)),Qb z,Qb z,Qb z,Qb z] [(2,pt z)] ⟨w,z+1,[(Ak w),(bk z #[i6 (-(n:Int)),Ac n,i6 (-(n:Int)),Ac n] 49)]⟩ rfl ⟨BQ,BQ,rfl,rfl,rfl,rfl,Ae⟩ ?_
 refine AA [.at 1,.at 1,.at 1,.at 1] [Qb z,Qb z,Qb z,Qb z] (.agg #[i6 (-(n:Int)),Ac n,i6 (-(n:Int)),Ac n]) ⟨rfl,rfl,rfl,rfl,Ae⟩ ?_
 intro w1 hw1
 exact⟨rfl,AO hw1⟩
theorem YP(w:World)(n:Nat)(hn:n≤281474976710656):Calls Tryd.prog 20 #[.int .i64 (n:Int)] w fun e w'=>e = .returned (.agg (Bh.arr (EG n)))∧CP (fun _=>False) w w':=by
 obtain⟨z,hz⟩:∃ z,z=w.heap.size:=⟨_,rfl⟩
 refine CE (args:=[(Ac n)]) 6 ⟨w,z,[(Ak w)]⟩ Tryd.func20 rfl (by kernel_rfl) (by kernel_rfl) (Ep hz) ?_
 refine DC [0] [(0,Ac n)] ?_
 refine q_c 9 0 [] [[o0],[o0,(ov (i6 (-(n:Int)))),o0,(an 2 1)]] [Wr ((0:Int) - (n:Int)) (-(n:Int)),Qb z,Qb z] [(2,pt z)] ⟨w,z+1,[(Ak w),(bk z #[i6 (-(n:Int)),.bool false] 57)]⟩ rfl ⟨BQ,rfl,rfl,Ae⟩ ?_
 refine AA [.at 1,.at 1] [Qb z,Qb z] (.agg #[i6 (-(n:Int)),.bool false]) ⟨rfl,rfl,Ae⟩ ?_
 intro w1 hw1
 exact⟨rfl,AO hw1⟩
theorem ZcV(w:World)(n:Nat)(hn:n≤281474976710656):Calls Tryd.prog 18 #[.int .i64 (n:Int)] w fun e w'=>e = .returned (.agg (Ap.arr (DV n)))∧CP (fun _=>False) w w':=by
 obtain⟨z,hz⟩:∃ z,z=w.heap.size:=⟨_,rfl⟩
 refine CE (args:=[(Ac n)]) 6 ⟨w,z,[(Ak w)]⟩ Tryd.func18 rfl (by kernel_rfl) (by kernel_rfl) (Ep hz) ?_
 refine DC [0] [(0,Ac n)] ?_
 refine q_c 9 0 [] [[o0],[o0,(ov (i6 ((-1000) - (n:Int)))),o0,(an 8 1)]] [Wr ((-1000:Int) - (n:Int)) ((-1000) - (n:Int)),Qb z,Qb z,Qb z,Qb z,Qb z,Qb z,Qb z,Qb z] [(2,pt z)] ⟨w,z+1,[(Ak w),(bk z #[.string (⟨#[]⟩),i6 ((-1000) - (n:Int)),i6 0,i6 0,i6 0,i6 0,.slice none 0 0,.slice none 0 0] 41)]⟩ rfl ⟨BQ,rfl,rfl,rfl,rfl,rfl,rfl,rfl,rfl,Ae⟩ ?_
 refine AA [.at 1,.at 1,.at 1,.at 1,.at 1,.at 1,.at 1,.at 1] [Qb z,Qb z,Qb z,Qb z,Qb z,Qb z,Qb z,Qb z] (.agg #[.string (⟨#[]⟩),i6 ((-1000) - (n:Int)),i6 0,i6 0,i6 0,i6 0,.slice none 0 0,.slice none 0 0]) ⟨rfl,rfl,rfl,rfl,rfl,rfl,rfl,rfl,Ae⟩ ?_
 intro w1 hw1
 exact⟨rfl,AO hw1⟩
theorem ZaN{x y:Ap}(h:KP x=KP y):x.Name=y.Name∧x.Entry=y.Entry∧x.DK=y.DK∧x.AY=y.AY∧x.DI=y.DI∧x.Bi=y.Bi∧x.Af.xs=y.Af.xs∧x.Am.xs=y.Am.xs :=
 ⟨(by have:=congrArg Ap.Name h;exact this),(by have:=congrArg Ap.Entry h;exact this),(by have:=congrArg Ap.DK h;exact this),(by have:=congrArg Ap.AY h;exact this),(by have:=congrArg Ap.DI h;exact this),(by have:=congrArg Ap.Bi h;exact this),(by have:=congrArg (fun x:Ap=>x.Af.xs) h;exact this),(by have:=congrArg (fun x:Ap=>x.Am.xs) h;exact this)⟩
theorem strC_nums{x y:Aj}(h:strip x=strip y):x.Frames=y.Frames∧x.CJ=y.CJ∧x.Kernel=y.Kernel∧x.Room=y.Room :=
 ⟨(by have:=congrArg Aj.Frames h;exact this),(by have:=congrArg Aj.CJ h;exact this),(by have:=congrArg Aj.Kernel h;exact this),(by have:=congrArg Aj.Room h;exact this)⟩
section
variable (z:Nat)(q p:Ap)
abbrev U9:=bk (z+1) (Ap.arr q) 41
abbrev UE:=bk z (Ap.arr p) 41
abbrev Ph:=(3,pt (z+1))
end
theorem samep_yes(w:World)(p q:Ap)(hp:Ap.ok Any w p)(hq:Ap.ok Any w q)(hx:KP p=KP q):Calls Tryd.prog 55 #[.agg (Ap.arr p),.agg (Ap.arr q)] w fun e w'=>e = .returned (.bool true)∧CP (fun _=>False) w w':=by
 obtain⟨z,hz⟩:∃ z,z=w.heap.size:=⟨_,rfl⟩
 refine CE (args:=[.agg (Ap.arr p),.agg (Ap.arr q)]) 99 ⟨w,z,[(Ak w)]⟩ Tryd.func55 rfl (by kernel_rfl) (by kernel_rfl) (Ep hz) ?_
 obtain⟨hN,h1,h2,h3,h4,h5,hR,hO⟩:=ZaN hx;have hl1:p.Af.xs.length=q.Af.xs.length:=by rw[hR]
 have hl2:p.Am.xs.length=q.Am.xs.length:=by rw[hO]
 have hb1:=hp.Af.1.len;have hb2:=hp.Am.1.len
 refine DC [0,1] [(0,.agg (Ap.arr p)),(1,.agg (Ap.arr q))] ?_
 refine q_c 26 0 [0,0] [[o0,o0,o0],[o0,(a1 1),o0,(a1 2),(ov (.bool false)),o0,o0,(a1 1),o0,(a1 2),oF,o0,o0,o0,(a1 1),o0,(a1 2),oF,o0,o0,o0,(a1 1),o0,(a1 2),oF,o0,o0,o0,(a1 1),o0,(a1 2),oF,o0,o0,o0,(a1 1),o0,(a1 2),oF,o0],[o0,(a1 1),o0,o0,(a1 2),o0,oF,o0,o0,(a1 1),o0,o0,(a1 2),o0,oF,o0],[o0]] [Qb z,Qb (z+1),Value.bool (!(p.Name.toList==q.Name.toList))=Value.bool false,Qb z,Qb (z+1),NF p.Entry q.Entry,Qb z,Qb (z+1),NF p.DK q.DK,Qb z,Qb (z+1),NF p.AY q.AY,Qb z,Qb (z+1),NF p.DI q.DI,Qb z,Qb (z+1),NF p.Bi q.Bi,Qb z,Qb (z+1),NF (p.Af.xs.length:Int) (q.Af.xs.length:Int),Qb z,Qb (z+1),NF (p.Am.xs.length:Int) (q.Am.xs.length:Int)] [(2,pt z),(Ph z),(5,i6 0)] ⟨w,z+2,[(Ak w),(UE z p),(U9 z q)]⟩ rfl ⟨rfl,rfl,congrArg (fun t=>Value.bool (!t)) (beq_iff_eq.2 (congrArg ByteArray.toList hN)),rfl,rfl,nf,rfl,rfl,nf,rfl,rfl,nf,rfl,rfl,nf,rfl,rfl,nf,rfl,rfl,nf,rfl,rfl,nf,Ae⟩ ?_
 refine Di (fun m a w'=>∃ (n2:Nat) (i:Nat),m=p.Af.xs.length - i∧z+2≤n2∧(i≤p.Af.xs.length)∧St 99 [(2,pt z),(Ph z),(5,Ac i)] [] ⟨w,n2,[(Ak w),(UE z p),(U9 z q)]⟩ a w') (p.Af.xs.length - 0) ?_ ?_
 ·intro a w' hs;exact⟨(z+2),0,rfl,Nat.le_refl _,Nat.zero_le _,hs⟩
 rintro m a w' ⟨n2,i,rfl,hn1,hki,hs⟩
 refine(?_:G Tryd.prog 99 [(2,pt z),(Ph z),(5,Ac i)] [] ⟨w,n2,[(Ak w),(UE z p),(U9 z q)]⟩ _ _ _) a w' hs
 clear hs a w'
 refine Ce <| Ce ?_
 by_cases h3:(i:Int)<(p.Af.xs.length:Int)
 ·refine Az 9 0 [1] [[o0,o0,(a1 1),o0,oT]] [Qb z,BT ((i:Int)<(p.Af.xs.length:Int))] [(2,pt z),(Ph z),(5,Ac i),(67,.bool true)] rfl ⟨rfl,bt,Ae⟩ ?_
  obtain⟨b4,o5,ha6,hF8,hc7⟩:=(hp.Af).1.all (show 0<p.Af.xs.length by omega)
  replace ha6:p.Af.a=some ⟨b4,o5,none⟩:=ha6
  have hc9:=hc7 i (show i<p.Af.xs.length by omega)
  have he10:=(hp.Af).2 i (show i<p.Af.xs.length by omega)
  obtain⟨y11,hy11⟩:∃ y_,y_=gd p.Af.xs i:=⟨_,rfl⟩
  rw[←hy11]at he10 hc9
  obtain⟨b12,o13,ha14,hF16,hc15⟩:=(hq.Af).1.all (show 0<q.Af.xs.length by omega)
  replace ha14:q.Af.a=some ⟨b12,o13,none⟩:=ha14
  have hc17:=hc15 i (show i<q.Af.xs.length by omega)
  have he18:=(hq.Af).2 i (show i<q.Af.xs.length by omega)
  obtain⟨y19,hy19⟩:∃ y_,y_=gd q.Af.xs i:=⟨_,rfl⟩
  rw[←hy19]at he18 hc17
  have hpey19:y11=y19:=by rw[hy11,hy19,hR]
  refine Eh 11 [0,1,2] [(Ak w),(UE z p),(U9 z q)] rfl rfl ?_
  refine Dj [(0,o0),(1,(DN 1 b4 o5 p.Af)),(2,o0),(3,(oi i)),(4,(ol 0 (A8.arr y11))),(5,o0),(6,(DN 2 b12 o13 q.Af)),(7,o0),(8,(oi i)),(9,(ol 0 (A8.arr y19))),(10,⟨.seq true,none⟩)] [2,3,5,80] [Qb z,Dh b4 o5 p.Af,Ci i,i<p.Af.xs.length,BN,Fa w b4 (o5+i*4) (A8.arr y11),Qb (z+1),Dh b12 o13 q.Af,Ci i,i<q.Af.xs.length,BN,Fa w b12 (o13+i*4) (A8.arr y19),((y11.Bj:Int)==(y19.Bj:Int)&&((y11.AV:Int)==(y19.AV:Int)&&((y11.Frame:Int)==(y19.Frame:Int)&&((y11.GM:Int)==(y19.GM:Int)&&true))))=true] (DF 11 0) [(2,pt z),(Ph z),(5,Ac i),(80,.bool false)] ⟨rfl,Df ha6,rfl,(by omega),rfl,Dt hc9,rfl,Df ha14,rfl,(by omega),rfl,Dt hc17,(by rw[hpey19];simp),Ae⟩ ?_
  refine CU ?_
  refine Jw 7 0 [0] [[o0,(ov (i6 ((i+1:Nat):Int))),o0]] [Wr ((i:Int)+1) (((i+1:Nat):Int))] [(2,pt z),(Ph z),(5,i6 ((i+1:Nat):Int))] rfl ⟨BQ,Ae⟩ ?_
  refine BD (fun a w' hs=>⟨p.Af.xs.length - (i+1),by omega,n2,(i+1),rfl,by omega,by omega,hs⟩)
 refine Az 15 0 [0] [[o0,o0,(a1 1),o0,oF],[o0]] [Qb z,BF ((i:Int)<(p.Af.xs.length:Int))] [(2,pt z),(Ph z),(6,i6 0)] rfl ⟨rfl,bf,Ae⟩ ?_
 refine Di (fun m a w'=>∃ (n21:Nat) (k:Nat),m=p.Am.xs.length - k∧n2≤n21∧(k≤p.Am.xs.length)∧St 99 [(2,pt z),(Ph z),(6,Ac k)] [] ⟨w,n21,[(Ak w),(UE z p),(U9 z q)]⟩ a w') (p.Am.xs.length - 0) ?_ ?_
 ·intro a w' hs;exact⟨n2,0,rfl,Nat.le_refl _,Nat.zero_le _,hs⟩
 rintro m a w' ⟨n21,k,rfl,hn20,hkk,hs⟩
 refine(?_:G Tryd.prog 99 [(2,pt z),(Ph z),(6,Ac k)] [] ⟨w,n21,[(Ak w),(UE z p),(U9 z q)]⟩ _ _ _) a w' hs
 clear hs a w'
 refine Ce <| Ce ?_
 by_cases h22:(k:Int)<(p.Am.xs.length:Int)
 ·refine Az 9 0 [1] [[o0,o0,(a1 1),o0,oT]] [Qb z,BT ((k:Int)<(p.Am.xs.length:Int))] [(2,pt z),(Ph z),(6,Ac k),(85,.bool true)] rfl ⟨rfl,bt,Ae⟩ ?_
  obtain⟨b23,o24,ha25,hF27,hc26⟩:=(hp.Am).1.all (show 0<p.Am.xs.length by omega)
  replace ha25:p.Am.a=some ⟨b23,o24,none⟩:=ha25
  have hc28:=hc26 k (show k<p.Am.xs.length by omega)
  have he29:=(hp.Am).2 k (show k<p.Am.xs.length by omega)
  obtain⟨y30,hy30⟩:∃ y_,y_=gd p.Am.xs k:=⟨_,rfl⟩
  rw[←hy30]at he29 hc28
  obtain⟨b31,o32,ha33,hF35,hc34⟩:=(hq.Am).1.all (show 0<q.Am.xs.length by omega)
  replace ha33:q.Am.a=some ⟨b31,o32,none⟩:=ha33
  have hc36:=hc34 k (show k<q.Am.xs.length by omega)
  have he37:=(hq.Am).2 k (show k<q.Am.xs.length by omega)
  obtain⟨y38,hy38⟩:∃ y_,y_=gd q.Am.xs k:=⟨_,rfl⟩
  rw[←hy38]at he37 hc36
  have hpey38:y30=y38:=by rw[hy30,hy38,hO]
  refine Eh 11 [0,1,2] [(Ak w),(UE z p),(U9 z q)] rfl rfl ?_
  refine Dj [(0,o0),(1,(DN 1 b23 o24 p.Am)),(2,o0),(3,(oi k)),(4,(ol 0 (Bh.arr y30))),(5,o0),(6,(DN 2 b31 o32 q.Am)),(7,o0),(8,(oi k)),(9,(ol 0 (Bh.arr y38))),(10,⟨.seq true,none⟩)] [2,3,6,98] [Qb z,Dh b23 o24 p.Am,Ci k,k<p.Am.xs.length,BN,Fa w b23 (o24+k*2) (Bh.arr y30),Qb (z+1),Dh b31 o32 q.Am,Ci k,k<q.Am.xs.length,BN,Fa w b31 (o32+k*2) (Bh.arr y38),((y30.Channel:Int)==(y38.Channel:Int)&&(y30.Source==y38.Source&&true))=true] (DF 11 0) [(2,pt z),(Ph z),(6,Ac k),(98,.bool false)] ⟨rfl,Df ha25,rfl,(by omega),rfl,Dt hc28,rfl,Df ha33,rfl,(by omega),rfl,Dt hc36,(by rw[hpey38];simp),Ae⟩ ?_
  refine CU ?_
  refine Jw 7 0 [0] [[o0,(ov (i6 ((k+1:Nat):Int))),o0]] [Wr ((k:Int)+1) (((k+1:Nat):Int))] [(2,pt z),(Ph z),(6,i6 ((k+1:Nat):Int))] rfl ⟨BQ,Ae⟩ ?_
  refine BD (fun a w' hs=>⟨p.Am.xs.length - (k+1),by omega,n21,(k+1),rfl,by omega,by omega,hs⟩)
 refine Az 14 0 [0] [[o0,o0,(a1 1),o0,oF],[o0]] [Qb z,BF ((k:Int)<(p.Am.xs.length:Int))] [(4,.bool true)] rfl ⟨rfl,bf,Ae⟩ ?_
 refine AA [] [] (.bool true) Ae ?_
 intro w39 hw39
 exact⟨rfl,AO hw39⟩
section
variable (z:Nat)(d c:Aj)
abbrev O5:=bk (z+1) (Aj.arr d) 26
abbrev OJ:=bk z (Aj.arr c) 26
abbrev IV:=(3,pt (z+1))
end
theorem same_yes(w:World)(c d:Aj)(hc:Aj.ok Any w c)(hd:Aj.ok Any w d)(hx:strip c=strip d):Calls Tryd.prog 29 #[.agg (Aj.arr c),.agg (Aj.arr d)] w fun e w'=>e = .returned (.bool true)∧CP (fun _=>False) w w':=by
 obtain⟨z,hz⟩:∃ z,z=w.heap.size:=⟨_,rfl⟩
 refine CE (args:=[.agg (Aj.arr c),.agg (Aj.arr d)]) 144 ⟨w,z,[(Ak w)]⟩ Tryd.func29 rfl (by kernel_rfl) (by kernel_rfl) (Ep hz) ?_
 obtain⟨h1,h2,h3,h4⟩:=strC_nums hx;obtain⟨hl1,hl2,hH,hC,hP⟩:=ZcO hx;have hl3:c.Ag.xs.length=d.Ag.xs.length:=by rw[hH]
 have hb1:=hc.Aq.1.len;have hb2:=hc.Aa.1.len;have hb3:=hc.Ag.1.len
 refine DC [0,1] [(0,.agg (Aj.arr c)),(1,.agg (Aj.arr d))] ?_
 refine q_c 26 0 [0,0] [[o0,o0,o0],[o0,(a1 1),o0,(a1 2),oF,o0,o0,(a1 1),o0,(a1 2),oF,o0,o0,o0,(a1 1),o0,(a1 2),oF,o0,o0,o0,(a1 1),o0,(a1 2),oF,o0],[o0,(a1 1),o0,o0,(a1 2),o0,oF,o0,o0,(a1 1),o0,o0,(a1 2),o0,oF,o0,o0,o0,(a1 1),o0,o0,(a1 2),o0,oF,o0],[o0]] [Qb z,Qb (z+1),NF c.Frames d.Frames,Qb z,Qb (z+1),NF c.CJ d.CJ,Qb z,Qb (z+1),NF c.Kernel d.Kernel,Qb z,Qb (z+1),NF c.Room d.Room,Qb z,Qb (z+1),NF (c.Aq.xs.length:Int) (d.Aq.xs.length:Int),Qb z,Qb (z+1),NF (c.Aa.xs.length:Int) (d.Aa.xs.length:Int),Qb z,Qb (z+1),NF (c.Ag.xs.length:Int) (d.Ag.xs.length:Int)] [(2,pt z),(IV z),(5,i6 0)] ⟨w,z+2,[(Ak w),(OJ z c),(O5 z d)]⟩ rfl ⟨rfl,rfl,nf,rfl,rfl,nf,rfl,rfl,nf,rfl,rfl,nf,rfl,rfl,nf,rfl,rfl,nf,rfl,rfl,nf,Ae⟩ ?_
 refine Di (fun m a w'=>∃ (n2:Nat) (h0:Nat),m=c.Ag.xs.length - h0∧z+2≤n2∧(h0≤c.Ag.xs.length)∧St 144 [(2,pt z),(IV z),(5,Ac h0)] [] ⟨w,n2,[(Ak w),(OJ z c),(O5 z d)]⟩ a w') (c.Ag.xs.length - 0) ?_ ?_
 ·intro a w' hs;exact⟨(z+2),0,rfl,Nat.le_refl _,Nat.zero_le _,hs⟩
 rintro m a w' ⟨n2,h0,rfl,hn1,hkh0,hs⟩
 refine(?_:G Tryd.prog 144 [(2,pt z),(IV z),(5,Ac h0)] [] ⟨w,n2,[(Ak w),(OJ z c),(O5 z d)]⟩ _ _ _) a w' hs
 clear hs a w'
 refine Ce <| Ce ?_
 by_cases h3:(h0:Int)<(c.Ag.xs.length:Int)
 ·refine Az 9 0 [1] [[o0,o0,(a1 1),o0,oT]] [Qb z,BT ((h0:Int)<(c.Ag.xs.length:Int))] [(2,pt z),(IV z),(5,Ac h0),(64,.bool true)] rfl ⟨rfl,bt,Ae⟩ ?_
  obtain⟨b4,o5,ha6,hF8,hc7⟩:=(hc.Ag).1.all (show 0<c.Ag.xs.length by omega)
  replace ha6:c.Ag.a=some ⟨b4,o5,none⟩:=ha6
  have hc9:=hc7 h0 (show h0<c.Ag.xs.length by omega)
  have he10:=(hc.Ag).2 h0 (show h0<c.Ag.xs.length by omega)
  obtain⟨y11,hy11⟩:∃ y_,y_=gd c.Ag.xs h0:=⟨_,rfl⟩
  rw[←hy11]at he10 hc9
  obtain⟨b12,o13,ha14,hF16,hc15⟩:=(hd.Ag).1.all (show 0<d.Ag.xs.length by omega)
  replace ha14:d.Ag.a=some ⟨b12,o13,none⟩:=ha14
  have hc17:=hc15 h0 (show h0<d.Ag.xs.length by omega)
  have he18:=(hd.Ag).2 h0 (show h0<d.Ag.xs.length by omega)
  obtain⟨y19,hy19⟩:∃ y_,y_=gd d.Ag.xs h0:=⟨_,rfl⟩
  rw[←hy19]at he18 hc17
  have hpey19:y11=y19:=by rw[hy11,hy19,hH]
  refine Eh 11 [0,1,2] [(Ak w),(OJ z c),(O5 z d)] rfl rfl ?_
  refine Dj [(0,o0),(1,(DN 1 b4 o5 c.Ag)),(2,o0),(3,(oi h0)),(4,(ol 0 (AL.arr y11))),(5,o0),(6,(DN 2 b12 o13 d.Ag)),(7,o0),(8,(oi h0)),(9,(ol 0 (AL.arr y19))),(10,⟨.seq true,none⟩)] [2,3,5,77] [Qb z,Dh b4 o5 c.Ag,Ci h0,h0<c.Ag.xs.length,BN,Fa w b4 (o5+h0*3) (AL.arr y11),Qb (z+1),Dh b12 o13 d.Ag,Ci h0,h0<d.Ag.xs.length,BN,Fa w b12 (o13+h0*3) (AL.arr y19),((y11.Kind:Int)==(y19.Kind:Int)&&((y11.Words:Int)==(y19.Words:Int)&&((y11.Dn:Int)==(y19.Dn:Int)&&true)))=true] (DF 11 0) [(2,pt z),(IV z),(5,Ac h0),(77,.bool false)] ⟨rfl,Df ha6,rfl,(by omega),rfl,Dt hc9,rfl,Df ha14,rfl,(by omega),rfl,Dt hc17,(by rw[hpey19];simp),Ae⟩ ?_
  refine CU ?_
  refine Jw 7 0 [0] [[o0,(ov (i6 ((h0+1:Nat):Int))),o0]] [Wr ((h0:Int)+1) (((h0+1:Nat):Int))] [(2,pt z),(IV z),(5,i6 ((h0+1:Nat):Int))] rfl ⟨BQ,Ae⟩ ?_
  refine BD (fun a w' hs=>⟨c.Ag.xs.length - (h0+1),by omega,n2,(h0+1),rfl,by omega,by omega,hs⟩)
 refine Az 15 0 [0] [[o0,o0,(a1 1),o0,oF],[o0]] [Qb z,BF ((h0:Int)<(c.Ag.xs.length:Int))] [(2,pt z),(IV z),(6,i6 0)] rfl ⟨rfl,bf,Ae⟩ ?_
 refine Di (fun m a w'=>∃ (n21:Nat) (i:Nat),m=c.Aq.xs.length - i∧n2≤n21∧(i≤c.Aq.xs.length)∧St 144 [(2,pt z),(IV z),(6,Ac i)] [] ⟨w,n21,[(Ak w),(OJ z c),(O5 z d)]⟩ a w') (c.Aq.xs.length - 0) ?_ ?_
 ·intro a w' hs;exact⟨n2,0,rfl,Nat.le_refl _,Nat.zero_le _,hs⟩
 rintro m a w' ⟨n21,i,rfl,hn20,hki,hs⟩
 refine(?_:G Tryd.prog 144 [(2,pt z),(IV z),(6,Ac i)] [] ⟨w,n21,[(Ak w),(OJ z c),(O5 z d)]⟩ _ _ _) a w' hs
 clear hs a w'
 refine Ce <| Ce ?_
 by_cases h22:(i:Int)<(c.Aq.xs.length:Int)
 ·refine Az 10 0 [1] [[o0,o0,(a1 1),o0,oT]] [Qb z,BT ((i:Int)<(c.Aq.xs.length:Int))] [(2,pt z),(IV z),(6,Ac i),(82,.bool true)] rfl ⟨rfl,bt,Ae⟩ ?_
  obtain⟨b23,o24,ha25,hF27,hc26⟩:=(hc.Aq).1.all (show 0<c.Aq.xs.length by omega)
  replace ha25:c.Aq.a=some ⟨b23,o24,none⟩:=ha25
  have hc28:=hc26 i (show i<c.Aq.xs.length by omega)
  have he29:=(hc.Aq).2 i (show i<c.Aq.xs.length by omega)
  obtain⟨y30,hy30⟩:∃ y_,y_=gd c.Aq.xs i:=⟨_,rfl⟩
  rw[←hy30]at he29 hc28
  have hyl:=he29.1.len
  obtain⟨b31,o32,ha33,hF35,hc34⟩:=(hd.Aq).1.all (show 0<d.Aq.xs.length by omega)
  replace ha33:d.Aq.a=some ⟨b31,o32,none⟩:=ha33
  have hc36:=hc34 i (show i<d.Aq.xs.length by omega)
  have he37:=(hd.Aq).2 i (show i<d.Aq.xs.length by omega)
  obtain⟨y38,hy38⟩:∃ y_,y_=gd d.Aq.xs i:=⟨_,rfl⟩
  rw[←hy38]at he37 hc36
  have hpey38:=(by have h0:=hC i;rw[←hy30,←hy38]at h0;exact h0:y30.xs=y38.xs)
  have hley38:y30.xs.length=y38.xs.length:=by rw[hpey38]
  refine Eh 13 [0,1,2] [(Ak w),(OJ z c),(O5 z d)] rfl rfl ?_
  refine Dj [(0,o0),(1,(DN 1 b23 o24 c.Aq)),(2,o0),(3,(oi i)),(4,(oa [.via 0 (.slice y30.a y30.xs.length y30.cap)])),(5,o0),(6,o0),(7,(DN 2 b31 o32 d.Aq)),(8,o0),(9,(oi i)),(10,(oa [.via 0 (.slice y38.a y38.xs.length y38.cap)])),(11,o0),(12,oF)] [2,3,6,97] [Qb z,Dh b23 o24 c.Aq,Ci i,i<c.Aq.xs.length,BN,Old w b23 (o24+i) (.slice y30.a y30.xs.length y30.cap),Qb (z+1),Dh b31 o32 d.Aq,Ci i,i<d.Aq.xs.length,BN,Old w b31 (o32+i) (.slice y38.a y38.xs.length y38.cap),NF (y30.xs.length:Int) (y38.xs.length:Int)] (DF 13 0) [(2,pt z),(IV z),(6,Ac i),(97,.bool false)] ⟨rfl,Df ha25,rfl,(by omega),rfl,A7 (hc28 0 _ rfl),rfl,Df ha33,rfl,(by omega),rfl,A7 (hc36 0 _ rfl),nf,Ae⟩ ?_
  refine CU ?_
  refine Jw 9 0 [0] [[o0]] [] [(2,pt z),(IV z),(6,Ac i),(7,i6 0)] rfl Ae ?_
  refine Di (fun m a w'=>∃ (n40:Nat) (k:Nat),m=y30.xs.length - k∧n21≤n40∧(k≤y30.xs.length)∧St 144 [(2,pt z),(IV z),(6,Ac i),(7,Ac k)] [] ⟨w,n40,[(Ak w),(OJ z c),(O5 z d)]⟩ a w') (y30.xs.length - 0) ?_ ?_
  ·intro a w' hs;exact⟨n21,0,rfl,Nat.le_refl _,Nat.zero_le _,hs⟩
  rintro m a w' ⟨n40,k,rfl,hn39,hkk,hs⟩
  refine(?_:G Tryd.prog 144 [(2,pt z),(IV z),(6,Ac i),(7,Ac k)] [] ⟨w,n40,[(Ak w),(OJ z c),(O5 z d)]⟩ _ _ _) a w' hs
  clear hs a w'
  refine Ce <| Ce ?_
  by_cases h41:(k:Int)<(y30.xs.length:Int)
  ·refine Az 9 0 [1] [[o0,o0,(DN 1 b23 o24 c.Aq),o0,(oi i),(oa [.via 0 (.slice y30.a y30.xs.length y30.cap)]),o0,oT]] [Qb z,Dh b23 o24 c.Aq,Ci i,i<c.Aq.xs.length,BN,Old w b23 (o24+i) (.slice y30.a y30.xs.length y30.cap),BT ((k:Int)<(y30.xs.length:Int))] [(2,pt z),(IV z),(6,Ac i),(7,Ac k),(105,.bool true)] rfl ⟨rfl,Df ha25,rfl,(by omega),rfl,A7 (hc28 0 _ rfl),bt,Ae⟩ ?_
   obtain⟨b42,o43,ha44,hF46,hc45⟩:=(he29).1.all (show 0<y30.xs.length by omega)
   replace ha44:y30.a=some ⟨b42,o43,none⟩:=ha44
   have hc47:=hc45 k (show k<y30.xs.length by omega)
   have he48:=(he29).2 k (show k<y30.xs.length by omega)
   obtain⟨y49,hy49⟩:∃ y_,y_=gd y30.xs k:=⟨_,rfl⟩
   rw[←hy49]at he48 hc47
   obtain⟨b50,o51,ha52,hF54,hc53⟩:=(he37).1.all (show 0<y38.xs.length by omega)
   replace ha52:y38.a=some ⟨b50,o51,none⟩:=ha52
   have hc55:=hc53 k (show k<y38.xs.length by omega)
   have he56:=(he37).2 k (show k<y38.xs.length by omega)
   obtain⟨y57,hy57⟩:∃ y_,y_=gd y38.xs k:=⟨_,rfl⟩
   rw[←hy57]at he56 hc55
   have hpey57:y49=y57:=by rw[hy49,hy57,hpey38]
   refine Eh 17 [0,1,2] [(Ak w),(OJ z c),(O5 z d)] rfl rfl ?_
   refine Dj [(0,o0),(1,(DN 1 b23 o24 c.Aq)),(2,o0),(3,(oi i)),(4,⟨.auto [.via 0 (.slice y30.a y30.xs.length y30.cap)],some (.slice (some ⟨b42,o43,none⟩) y30.xs.length y30.cap)⟩),(5,o0),(6,(oi k)),(7,(ol 0 (Au.arr y49))),(8,o0),(9,(DN 2 b31 o32 d.Aq)),(10,o0),(11,(oi i)),(12,⟨.auto [.via 0 (.slice y38.a y38.xs.length y38.cap)],some (.slice (some ⟨b50,o51,none⟩) y38.xs.length y38.cap)⟩),(13,o0),(14,(oi k)),(15,(ol 0 (Au.arr y57))),(16,⟨.seq true,none⟩)] [2,3,6,7,124] [Qb z,Dh b23 o24 c.Aq,Ci i,i<c.Aq.xs.length,BN,Old w b23 (o24+i) (.slice y30.a y30.xs.length y30.cap),Dh b42 o43 y30,Ci k,k<y30.xs.length,BN,Fa w b42 (o43+k*3) (Au.arr y49),Qb (z+1),Dh b31 o32 d.Aq,Ci i,i<d.Aq.xs.length,BN,Old w b31 (o32+i) (.slice y38.a y38.xs.length y38.cap),Dh b50 o51 y38,Ci k,k<y38.xs.length,BN,Fa w b50 (o51+k*3) (Au.arr y57),((y49.Partition:Int)==(y57.Partition:Int)&&((y49.Ba:Int)==(y57.Ba:Int)&&((y49.AQ:Int)==(y57.AQ:Int)&&true)))=true] (DF 17 0) [(2,pt z),(IV z),(6,Ac i),(7,Ac k),(124,.bool false)] ⟨rfl,Df ha25,rfl,(by omega),rfl,A7 (hc28 0 _ rfl),Df ha44,rfl,(by omega),rfl,Dt hc47,rfl,Df ha33,rfl,(by omega),rfl,A7 (hc36 0 _ rfl),Df ha52,rfl,(by omega),rfl,Dt hc55,(by rw[hpey57];simp),Ae⟩ ?_
   refine CU ?_
   refine Jw 7 0 [0] [[o0,(ov (i6 ((k+1:Nat):Int))),o0]] [Wr ((k:Int)+1) (((k+1:Nat):Int))] [(2,pt z),(IV z),(6,Ac i),(7,i6 ((k+1:Nat):Int))] rfl ⟨BQ,Ae⟩ ?_
   refine BD (fun a w' hs=>⟨y30.xs.length - (k+1),by omega,n40,(k+1),rfl,by omega,by omega,hs⟩)
  refine Az 12 0 [0] [[o0,o0,(DN 1 b23 o24 c.Aq),o0,(oi i),(oa [.via 0 (.slice y30.a y30.xs.length y30.cap)]),o0,oF],[o0,(ov (i6 ((i+1:Nat):Int))),o0]] [Qb z,Dh b23 o24 c.Aq,Ci i,i<c.Aq.xs.length,BN,Old w b23 (o24+i) (.slice y30.a y30.xs.length y30.cap),BF ((k:Int)<(y30.xs.length:Int)),Wr ((i:Int)+1) (((i+1:Nat):Int))] [(2,pt z),(IV z),(6,i6 ((i+1:Nat):Int))] rfl ⟨rfl,Df ha25,rfl,(by omega),rfl,A7 (hc28 0 _ rfl),bf,BQ,Ae⟩ ?_
  refine BD (fun a w' hs=>⟨c.Aq.xs.length - (i+1),by omega,n40,(i+1),rfl,by omega,by omega,hs⟩)
 refine Az 15 0 [0] [[o0,o0,(a1 1),o0,oF],[o0]] [Qb z,BF ((i:Int)<(c.Aq.xs.length:Int))] [(2,pt z),(IV z),(8,i6 0)] rfl ⟨rfl,bf,Ae⟩ ?_
 refine Di (fun m a w'=>∃ (n59:Nat) (p:Nat),m=c.Aa.xs.length - p∧n21≤n59∧(p≤c.Aa.xs.length)∧St 144 [(2,pt z),(IV z),(8,Ac p)] [] ⟨w,n59,[(Ak w),(OJ z c),(O5 z d)]⟩ a w') (c.Aa.xs.length - 0) ?_ ?_
 ·intro a w' hs;exact⟨n21,0,rfl,Nat.le_refl _,Nat.zero_le _,hs⟩
 rintro m a w' ⟨n59,p,rfl,hn58,hkp,hs⟩
 refine(?_:G Tryd.prog 144 [(2,pt z),(IV z),(8,Ac p)] [] ⟨w,n59,[(Ak w),(OJ z c),(O5 z d)]⟩ _ _ _) a w' hs
 clear hs a w'
 refine Ce <| Ce ?_
 by_cases h60:(p:Int)<(c.Aa.xs.length:Int)
 ·refine Az 9 0 [1] [[o0,o0,(a1 1),o0,oT]] [Qb z,BT ((p:Int)<(c.Aa.xs.length:Int))] [(2,pt z),(IV z),(8,Ac p),(129,.bool true)] rfl ⟨rfl,bt,Ae⟩ ?_
  obtain⟨b61,o62,ha63,hF65,hc64⟩:=(hc.Aa).1.all (show 0<c.Aa.xs.length by omega)
  replace ha63:c.Aa.a=some ⟨b61,o62,none⟩:=ha63
  have hc66:=hc64 p (show p<c.Aa.xs.length by omega)
  have he67:=(hc.Aa).2 p (show p<c.Aa.xs.length by omega)
  obtain⟨y68,hy68⟩:∃ y_,y_=gd c.Aa.xs p:=⟨_,rfl⟩
  rw[←hy68]at he67 hc66
  obtain⟨b69,o70,ha71,hF73,hc72⟩:=(hd.Aa).1.all (show 0<d.Aa.xs.length by omega)
  replace ha71:d.Aa.a=some ⟨b69,o70,none⟩:=ha71
  have hc74:=hc72 p (show p<d.Aa.xs.length by omega)
  have he75:=(hd.Aa).2 p (show p<d.Aa.xs.length by omega)
  obtain⟨y76,hy76⟩:∃ y_,y_=gd d.Aa.xs p:=⟨_,rfl⟩
  rw[←hy76]at he75 hc74
  have hpey76:=(by have h0:=hP p;rw[←hy68,←hy76]at h0;exact h0:KP y68=KP y76)
  refine Eh 12 [0,1,2] [(Ak w),(OJ z c),(O5 z d)] rfl rfl ?_
  refine Dj [(0,o0),(1,(DN 1 b61 o62 c.Aa)),(2,o0),(3,(oi p)),(4,(ol 0 (Ap.arr y68))),(5,o0),(6,(DN 2 b69 o70 d.Aa)),(7,o0),(8,(oi p)),(9,(ol 0 (Ap.arr y76)))] [2,3,8,136,141] [Qb z,Dh b61 o62 c.Aa,Ci p,p<c.Aa.xs.length,BN,Fa w b61 (o62+p*8) (Ap.arr y68),Qb (z+1),Dh b69 o70 d.Aa,Ci p,p<d.Aa.xs.length,BN,Fa w b69 (o70+p*8) (Ap.arr y76)] (DF 10 2) [(2,pt z),(IV z),(8,Ac p),(136,.agg (Ap.arr y68)),(141,.agg (Ap.arr y76))] ⟨rfl,Df ha63,rfl,(by omega),rfl,Dt hc66,rfl,Df ha71,rfl,(by omega),rfl,Dt hc74,Ae⟩ ?_
  refine BC 10 ?_
  refine Jj [] [] 55 #[.agg (Ap.arr y68),.agg (Ap.arr y76)] (some 142) (by as_aux_lemma=>kernel_rfl) rfl rfl Ae ?_
  intro w77 hw77
  refine(samep_yes w77 y68 y76 (he67.ext (hw77.ext rfl) (fun _ h=>h)) (he75.ext (hw77.ext rfl) (fun _ h=>h)) hpey76).mono ?_
  rintro e w78 ⟨rfl,hkw78⟩
  have hnw78:n59≤w78.heap.size:=Fg hw77 hkw78
  have hs79:=hw77.keeps hkw78
  refine⟨_,_,rfl,hs79,.inr (fun c hc=>hs79.all c (by first | exact hc | exact Fe (is:=[0,1,2]) rfl c hc)), ?_⟩
  refine DU [2,3,8,142] [(2,pt z),(IV z),(8,Ac p),(142,.bool true)] ?_
  refine Dj [(11,o0)] [2,3,8,143] [] (DF 12 0) [(2,pt z),(IV z),(8,Ac p),(143,.bool false)] Ae ?_
  refine CU ?_
  refine Jw 7 0 [0] [[o0,(ov (i6 ((p+1:Nat):Int))),o0]] [Wr ((p:Int)+1) (((p+1:Nat):Int))] [(2,pt z),(IV z),(8,i6 ((p+1:Nat):Int))] rfl ⟨BQ,Ae⟩ ?_
  refine BD (fun a w' hs=>⟨c.Aa.xs.length - (p+1),by omega,w78.heap.size,(p+1),rfl,by omega,by omega,hs⟩)
 refine Az 14 0 [0] [[o0,o0,(a1 1),o0,oF],[o0]] [Qb z,BF ((p:Int)<(c.Aa.xs.length:Int))] [(4,.bool true)] rfl ⟨rfl,bf,Ae⟩ ?_
 refine AA [] [] (.bool true) Ae ?_
 intro w80 hw80
 exact⟨rfl,AO hw80⟩
end Go.Proofs.YtnjhekfgmbpmlaaDoor.Ad
namespace Go.Proofs.YtnjhekfgmbpmlaaDoor.Eng
open Go Go.Lib Go.Proofs.YtnjhekfgmbpmlaaDoor.Mem
set_option linter.unusedSimpArgs false
set_option linter.unusedVariables false
section
variable {P:Program}{N:Nat}{env:Env}{ds:List Deferred}{A:AW}{ops:Array Oper}{l:List Oper}{s:List Kt}{Q:Exit→Act→World→Prop}{c:Code}
def KN(P:Program)(N:Nat)(ops:Array Oper)(env:Env):List Oper→Option (Nat×Nat×Nat×TypeId×Option Nat)
 | []=>none
 | o :: _=>match o.op,Ox ops env o,Lt env o,Ov N o.dst with
  | .convert src dst x,some true,true,true=>match Nat.beq src dst,P.underlying src,IG env x with
   | true,some (.slice e),.slice (some ⟨b,0,none⟩) n cap=>match P.underlying e with
    | some (.int .u8)=>some (b,n,cap,e,o.dst)
    | _=>none
   | _,_,_=>none
  | _,_,_,_=>none
end
theorem e_eqA{P:Program}{N:Nat}{env:Env}{ds:List Deferred}{A:AW}{s:List Kt}{Q:Exit→Act→World→Prop}{x:Exit}(A':AW)(h:A=A')(K:E P N env ds A' x s Q):E P N env ds A x s Q:=h ▸ K
end Go.Proofs.YtnjhekfgmbpmlaaDoor.Eng
