/- Packed: Li, Lz, Ah, Ai, Aj, EngX, Ak, EngH, EngAa, EngAb, Va, Al, Aq, Vb, Vc, Vd, Lm. No conditions. -/
import Derived.Test.YtjdmhijaanmccaaDoorPn3
import Derived.Deep.Slices
import Derived.SizedLaws
import Derived.WideShapes
import Derived.DataReads
import Derived.LoopN
set_option maxHeartbeats 4000000
namespace Go.Proofs.YtjdmhijaanmccaaDoor.Ly
open Go Go.Proofs.YtjdmhijaanmccaaDoor.Eng Go.Proofs.YtjdmhijaanmccaaDoor.Mem
set_option linter.unusedSimpArgs false
set_option linter.unusedVariables false
set_option maxRecDepth 100000
theorem TQ{c:Aj}{i:Nat}:DD c (i+1)=DD c i+1+(Iu (gd c.Aa.xs i):Int):=rfl
theorem tAt_zero{c:Aj}:DD c 0=(CE c c.Ah.xs.length+16 - 1) / 16:=rfl
theorem XO{n:Nat}{x:Aq}(h:DI n x=true):∀ i,i<x.Ai.xs.length→Jo (gd x.Ai.xs i)=true:=fun i hi=>by
 rw[F8 hi];exact List.all_eq_true.1 (part_regs h).2 _ (List.getElem_mem hi)
theorem can_yes(w:World)(c:Aj)(hc:Aj.ok Any w c)(h:Eh c=true):Calls Tryd.prog 37 #[.agg (Aj.arr c)] w fun e w'=>e = .returned (.bool true)∧CZ (fun _=>False) w w':=by
 have:=Yb w c hc
 rwa [h]at this
theorem can_no(w:World)(c:Aj)(hc:Aj.ok Any w c)(h:Eh c=false):Calls Tryd.prog 37 #[.agg (Aj.arr c)] w fun e w'=>e = .returned (.bool false)∧CZ (fun _=>False) w w':=by
 have:=Yb w c hc
 rwa [h]at this
def layS(n:Nat)(L:FK):List Ch:=[Ci n 70 5 Ap.cells L.Aa.val L.Aa.xs,Ci n 91 5 Au.cells L.Ah.val L.Ah.xs,Hu n 99 3 Bh.cells (L.Ah.xs.map Au.Dw),Hu n 3 1 (fun x:Int=>[Value.int .i64 x]) (L.Aa.xs.map Ap.Tables)]
def Ur(n:Nat)(W:World)(L:FK):Prop:=∃ w0,Sat ⟨w0,W.heap.size,layS n L⟩ W
theorem Vk{c:Aj}{k:Int}{b:Bool}(hp:∀ i,i<c.Aa.xs.length→(gd c.Aa.xs i).Ar.xs.length≤8)(h8:c.Aa.xs.length≤8):∀ y∈BV c k b,0≤y.partition∧y.partition<8∧0≤y.port∧y.port<8:=by
 intro y hy
 unfold BV CU at hy
 simp only[List.mem_flatMap,List.mem_range]at hy
 obtain⟨p,hpl,hy⟩:=hy
 unfold Cm at hy
 simp only[List.mem_map,List.mem_filter,List.mem_range]at hy
 obtain⟨q,⟨hq, -⟩,rfl⟩:=hy
 have:=hp p hpl
 simp only
 omega
theorem Oz{x:Int}(h:0≤x)(h2:x≤1000000):HY .i64 x:=⟨by omega,by omega⟩
theorem TR{F:Nat→Prop}{W:World}{c:Aj}{k:Int}{b:Bool}(hf:Fine c):∀ i,i<(BV c k b).length→Fj.ok F W (gd (BV c k b) i):=fun i hi=>by
 have:=Vk (k:=k) (b:=b) (fun i hi=>ML (hf.parts i hi)) hf.pn (gd (BV c k b) i) (by rw[F8 hi];exact List.getElem_mem _)
 exact⟨Oz (by omega) (by omega),Oz (by omega) (by omega)⟩
theorem Za6{α:Type}{base:Nat}{e:TypeId}{sz:Nat}{cells:α→List Value}{hs:List (Sl α)}{W:World}(hsz:∀ x,(cells x).length=sz)(h:(Hu base e sz cells hs).holds W){s:Sl α}(hs':s∈hs)(hl:s.xs.length≤140737488351232):Uy cells sz (New base) W s:=Qp hsz (h.1 s hs') hl
theorem ZaN{c:Aj}{n:Nat}{W:World}{L:FK}(hf:Fine c)(hL:Ud c L)(ho:Ur n W L):FK.ok (New n) W L:=by
 obtain⟨w0,hs⟩:=ho
 have h0:W.ownsRow n 70 5 L.Aa.val L.Aa.xs.length (L.Aa.xs.flatMap Ap.cells):=hs.at (i:=0) rfl
 have h1:W.ownsRow n 91 5 L.Ah.val L.Ah.xs.length (L.Ah.xs.flatMap Au.cells):=hs.at (i:=1) rfl
 have h2:(Hu n 99 3 Bh.cells (L.Ah.xs.map Au.Dw)).holds W:=hs.at (i:=2) rfl
 have h3:(Hu n 3 1 (fun x:Int=>[Value.int .i64 x]) (L.Aa.xs.map Ap.Tables)).holds W:=hs.at (i:=3) rfl
 have hkn:=hf.kn;have hpn:=hf.pn;have hcn:=hf.cn
 refine⟨Oz (by rw[hL.bar];omega) (by rw[hL.bar];omega),⟨Qp (fun _=>rfl) h0 (by rw[hL.pl];omega), ?_⟩,⟨Qp (fun _=>rfl) h1 (by rw[hL.cl];omega), ?_⟩, ?_⟩
 ·intro i hi
  have hi':i<c.Aa.xs.length:=by rw[←hL.pl];exact hi
  obtain⟨a,cp,e⟩:=hL.ps i hi'
  have ht:=Ql hf i (by omega)
  have hn:=Rx (gd c.Aa.xs i)
  have hm:(gd L.Aa.xs i).Tables∈L.Aa.xs.map Ap.Tables:=List.mem_map_of_mem (by rw[F8 hi];exact List.getElem_mem hi)
  have hsl:=Za6 (by intro _;rfl) h3 hm (by rw[e];simp only[FH,TU];omega)
  rw[e]at hsl ⊢
  refine⟨Oz (by simp only[FH,CG];omega) (by simp only[FH,CG];omega),Oz (by simp only[FH,CG];omega) (by simp only[FH,CG];omega),Oz (by simp only[FH,CG];omega) (by simp only[FH,CG];omega),Oz (by simp only[FH];omega) (by simp only[FH];omega),hsl, ?_⟩
  intro q hq
  have hq':q<Iu (gd c.Aa.xs i):=by simpa only[FH,TU]using hq
  show HY .i64 (gd _ _)
  have:gd (FH c i ⟨a,cp,EU c i (Iu (gd c.Aa.xs i))⟩).Tables.xs q=DD c i+1+(q:Int):=YG hq'
  rw[this]
  exact Oz (by omega) (by omega)
 ·intro k hk
  have hk':k<c.Ah.xs.length:=by rw[←hL.cl];exact hk
  obtain⟨a,cp,e⟩:=hL.cs k hk'
  have hb:=Rz hf k (by omega)
  have hd:=hf.UX hk'
  have hp0:CG c c.Aa.xs.length=c.Kernel*16+2+24*(c.Aa.xs.length:Int):=rfl
  have hpp:∀ i,i<c.Aa.xs.length→(gd c.Aa.xs i).Ar.xs.length≤8:=fun i hi=>ML (hf.parts i hi)
  have hm:(gd L.Ah.xs k).Dw∈L.Ah.xs.map Au.Dw:=List.mem_map_of_mem (by rw[F8 hk];exact List.getElem_mem hk)
  have hsl:=Za6 (by intro _;rfl) h2 hm (by rw[e];simp only[IR,Sm];omega)
  have h1p:0<(BV c (k:Int) true).length:=by omega
  have hsrc:=Vk (k:=(k:Int)) (b:=true) hpp hpn (gd (BV c (k:Int) true) 0) (by rw[F8 h1p];exact List.getElem_mem _)
  rw[e]at hsl ⊢
  refine⟨Oz (by simp only[IR];omega) (by simp only[IR];omega),Oz (by simp only[IR];omega) (by simp only[IR];omega),Oz (by simp only[IR];omega) (by simp only[IR];omega),Oz (by simp only[IR];omega) (by simp only[IR];omega),hsl, ?_⟩
  intro q hq
  have hq':q<Jk c k:=by simpa only[IR,Sm]using hq
  have e2:gd (IR c k ⟨a,cp,EJ c k (Jk c k)⟩).Dw.xs q=Ox c k q:=YG hq'
  have hdst:=Vk (k:=(k:Int)) (b:=false) hpp hpn (gd (BV c (k:Int) false) q) (by rw[F8 hq'];exact List.getElem_mem _)
  have hdb:=Yq hf hk' (show q≤4 by omega)
  rw[e2]
  exact⟨Oz (by simp only[Ox];omega) (by simp only[Ox];omega),Oz (by simp only[Ox];omega) (by simp only[Ox];omega),Oz (by simp only[Ox];omega) (by simp only[Ox];omega)⟩
 have:=Ql hf _ (Nat.le_refl _)
 exact Oz (by rw[hL.fin];omega) (by rw[hL.fin];omega)
theorem of_no(w:World)(c:Aj)(hc:Aj.ok Any w c)(hok:Eh c=false):Calls Tryd.prog 18 #[.agg (Aj.arr c)] w fun e w'=>e = .returned (.tuple #[.agg #[.int .i64 0,.slice none 0 0,.slice none 0 0,.int .i64 0],.int .i64 150])∧CZ (fun _=>False) w w':=by
 obtain⟨z,hz⟩:∃ z,z=w.heap.size:=⟨_,rfl⟩
 refine Cb (args:=[.agg (Aj.arr c)]) 148 ⟨w,z,[(Ak w)]⟩ Tryd.func18 rfl (by kernel_rfl) (by kernel_rfl) (ES hz) ?_
 refine Ee [0] [(0,.agg (Aj.arr c))] ?_
 refine q_c 7 1 [] [[o0,o0,o0],[(an 7 1)]] [Qb z,Qb z,Qb z,Qb z,Qb z,Qb z,Qb z] [(1,pt z),(2,pt (z+1)),(16,.agg (Aj.arr c))] ⟨w,z+2,[(Ak w),(bk z (Aj.arr c) 26),(bk (z+1) #[i6 0,.slice none 0 0,.slice none 0 0,i6 0] 60)]⟩ rfl ⟨rfl,rfl,rfl,rfl,rfl,rfl,rfl,Af⟩ ?_
 refine BI 37 #[.agg (Aj.arr c)] (some 17) (.bool false) (fun w1 hw1=>can_no w1 c (hc.ext (hw1.ext rfl) (fun _ h=>h)) hok) (fun n2 (hn3:z+2≤n2) => ?_)
 refine Cc 8 0 [1] [[o0],[o0,(an 4 2),o0]] [Qb (z+1),Qb (z+1),Qb (z+1),Qb (z+1)] [(2,pt (z+1)),(3,i6 150)] rfl ⟨rfl,rfl,rfl,rfl,Af⟩ ?_
 refine AO [.at 2,.at 2,.at 2,.at 2] [Qb (z+1),Qb (z+1),Qb (z+1),Qb (z+1)] (.tuple #[.agg #[i6 0,.slice none 0 0,.slice none 0 0,i6 0],i6 150]) ⟨rfl,rfl,rfl,rfl,Af⟩ ?_
 intro w4 hw4
 exact⟨rfl,Bi hw4⟩
section
variable (n2:Nat)(c:Aj)(aP:Option Addr)(i cP:Nat)(ax100:Option Addr)(csG:List Au)(k:Nat)(y48:Fj)(aD:Option Addr)(cD j cp101:Nat)(ax20:Option Addr)(cp21 b50:Nat)(ax96:Option Addr)(y89:Fj)(cp97 n80:Nat)(w55 w36:World)(b119:Nat)(psG:List Ap)(cP2:Nat)(aC:Option Addr)(cC n9:Nat)(aP2:Option Addr)(w91:World)(z:Nat)(y34:AP)(n25 p:Nat)(t n109:Nat)(y118:Aq)(aT:Option Addr)(cT:Nat)(ax134:Option Addr)(cp135 b111:Nat)(o112 b82:Nat)(o83 cp40:Nat)(b27 o28:Nat)(ax39:Option Addr)(w:World)
abbrev Us:=bk (n2+1) #[i6 (c.Kernel*16),.slice aP ((Hf c i).length) cP,.slice ax100 ((csG++[(⟨CE c k,(CE c k)+2,y48.partition,y48.port,(⟨aD,cD,EJ c k j⟩:Sl Bh)⟩:Au)]).length) cp101,i6 0] 60
abbrev Ut:Ch:= .blk (n2+1) (.cells #[i6 (c.Kernel*16),.slice ax20 ((Hf c i++[(⟨CG c i,(CG c i)+2,((CG c i)+2)+17,0,(⟨none,0,[]⟩:Sl Int)⟩:Ap)]).length) cp21,.slice none 0 0,i6 0] 60 (0,0)) true
abbrev Rq:=bk b50 #[i6 (CE c k),i6 ((CE c k)+2),i6 y48.partition,i6 y48.port,.slice ax96 ((EJ c k j++[(⟨y89.partition,y89.port,GR c k j⟩:Bh)]).length) cp97] 91
abbrev Ir:=bk b50 #[i6 (CE c k),i6 ((CE c k)+2),i6 y48.partition,i6 y48.port,.slice aD ((EJ c k j).length) cD] 91
abbrev UD:=bk n80 #[i6 (CE c k),i6 ((CE c k)+2),i6 y48.partition,i6 y48.port,.slice aD ((EJ c k j).length) cD] 91
abbrev qzm6_5:Ch:= .blk w55.heap.size (.cells #[i6 (CE c k),i6 ((CE c k)+2),i6 y48.partition,i6 y48.port,.slice none 0 0] 91 (0,0)) true
abbrev qzm6_6:Ch:= .blk w36.heap.size (.cells #[i6 (CE c k),i6 ((CE c k)+2),i6 y48.partition,i6 y48.port,.slice none 0 0] 91 (0,0)) true
abbrev JQ:=bk (n2+1) #[i6 (c.Kernel*16),.slice (some ⟨b119,0,none⟩) psG.length cP2,.slice aC csG.length cC,i6 0] 60
abbrev UC:=bk n9 #[i6 (CG c i),i6 ((CG c i)+2),i6 (((CG c i)+2)+17),i6 0,.slice none 0 0] 70
abbrev Em:=bk (n2+1) #[i6 (c.Kernel*16),.slice aP ((Hf c i).length) cP,.slice aC csG.length cC,i6 0] 60
abbrev FY:=bk (n2+1) #[i6 (c.Kernel*16),.slice aP ((Hf c i).length) cP,.slice none 0 0,i6 0] 60
abbrev Oe:=bk (n2+1) #[i6 (c.Kernel*16),.slice aP2 psG.length cP2,.slice aC csG.length cC,i6 0] 60
abbrev Vg:Ch:= .blk w55.heap.size (.cells #[i6 0,i6 0,i6 0,i6 0,.slice none 0 0] 91 (0,0)) true
abbrev Tn:Ch:= .blk w36.heap.size (.cells #[i6 0,i6 0,i6 0,i6 0,.slice none 0 0] 91 (0,0)) true
abbrev PV:Ch:= .blk w91.heap.size (.cells #[i6 y89.partition,i6 y89.port,i6 (GR c k j)] 99 (0,0)) true
abbrev Ce:=bk (z+1) #[i6 0,.slice none 0 0,.slice none 0 0,i6 0] 60
abbrev GY:=bk n2 #[i6 (((CE c k)+2)+(Bz y34))] 3
abbrev PY:=bk n25 #[i6 ((DD c p+1+(t:Int))+1)] 3
abbrev PU:=bk n2 #[i6 ((((CG c i)+2)+17)+5)] 3
abbrev Ob:=bk n2 #[i6 ((GR c k j)+(portOf y34))] 3
abbrev OV:=bk n25 #[i6 (DD c p+1+(t:Int))] 3
abbrev SE:=bk n2 #[i6 ((CE c k)+2)] 3
abbrev Ho:=bk n2 #[i6 (GR c k j)] 3
abbrev Jg:=bk n109 (Aq.arr y118) 52
abbrev Me:=bk n25 #[i6 (DD c p)] 3
abbrev EL:=bk n2 #[i6 (CE c k)] 3
abbrev Ea:=bk n25 (AP.arr y34) 115
abbrev LW:=bk n80 (Fj.arr y89) 121
abbrev BZ:=bk z (Aj.arr c) 26
abbrev TG:=Ci z 70 5 Ap.cells (.slice (some ⟨b119,0,none⟩) psG.length cP2) ((psG.set p (⟨CG c p,CG c p+2,CG c p+2+17,DD c p,(⟨aT,cT,EU c p t⟩:Sl Int)⟩:Ap)).set p (⟨CG c p,CG c p+2,CG c p+2+17,DD c p,(⟨ax134,cp135,((EU c p t)++[DD c p+1+(t:Int)])⟩:Sl Int)⟩:Ap))
abbrev SN:=Ci z 91 5 Au.cells (.slice ax100 ((csG++[(⟨CE c k,(CE c k)+2,y48.partition,y48.port,(⟨aD,cD,EJ c k j⟩:Sl Bh)⟩:Au)]).length) cp101) (csG++[(⟨CE c k,(CE c k)+2,y48.partition,y48.port,(⟨aD,cD,EJ c k j⟩:Sl Bh)⟩:Au)])
abbrev Td:=Ci z 70 5 Ap.cells (.slice ax20 ((Hf c i++[(⟨CG c i,(CG c i)+2,((CG c i)+2)+17,0,(⟨none,0,[]⟩:Sl Int)⟩:Ap)]).length) cp21) (Hf c i++[(⟨CG c i,(CG c i)+2,((CG c i)+2)+17,0,(⟨none,0,[]⟩:Sl Int)⟩:Ap)])
abbrev PO:=Ci z 99 3 Bh.cells (.slice ax96 ((EJ c k j++[(⟨y89.partition,y89.port,GR c k j⟩:Bh)]).length) cp97) (EJ c k j++[(⟨y89.partition,y89.port,GR c k j⟩:Bh)])
abbrev KR:=Ci z 70 5 Ap.cells (.slice (some ⟨b119,0,none⟩) psG.length cP2) (psG.set p (⟨CG c p,CG c p+2,CG c p+2+17,DD c p,(⟨aT,cT,EU c p t⟩:Sl Int)⟩:Ap))
abbrev OQ:=Ci z 3 1 (fun x:Int=>[i6 x]) (.slice aT ((EU c p t).length) cT) (EU c p t)
abbrev H6:=Hu z 3 1 (fun x:Int=>[i6 x]) ((psG.take p).map Ap.Tables)
abbrev Dx:=Ci z 70 5 Ap.cells (.slice aP ((Hf c i).length) cP) (Hf c i)
abbrev Ht:=Ci z 99 3 Bh.cells (.slice aD ((EJ c k j).length) cD) (EJ c k j)
abbrev Nr:=Ci z 70 5 Ap.cells (.slice aP2 psG.length cP2) psG
abbrev Dq:=Ci z 91 5 Au.cells (.slice aC csG.length cC) csG
abbrev Dn:=Hu z 99 3 Bh.cells (csG.map Au.Dw)
abbrev Vu:Dc:=(42,.slice ax20 ((Hf c i++[(⟨CG c i,(CG c i)+2,((CG c i)+2)+17,0,(⟨none,0,[]⟩:Sl Int)⟩:Ap)]).length) cp21)
abbrev Tc:Dc:=(73,.agg #[i6 (CE c k),i6 ((CE c k)+2),i6 y48.partition,i6 y48.port,.slice none 0 0])
abbrev FV:Dc:=(109,.slice (some ⟨b111,o112,none⟩) c.Aa.xs.length c.Aa.cap)
abbrev Jt:Dc:=(74,.slice (some ⟨b82,o83,none⟩) ((BV c (k:Int) false).length) cp40)
abbrev Df:Dc:=(46,.slice (some ⟨b27,o28,none⟩) c.Ah.xs.length c.Ah.cap)
abbrev La:Dc:=(109,.slice c.Aa.a c.Aa.xs.length c.Aa.cap)
abbrev F6:=(75,i6 (((BV c (k:Int) false).length:Nat):Int))
abbrev Hq:Dc:=(46,.slice c.Ah.a c.Ah.xs.length c.Ah.cap)
abbrev Fb:Dc:=(13,.func (.func 77) #[] #[pt n25])
abbrev Nu:Dc:=(61,.func (.func 77) #[] #[pt n2])
abbrev BU:Dc:=(4,.func (.func 77) #[] #[pt n2])
abbrev Iy:Dc:=(74,.slice ax39 ((BV c (k:Int) false).length) cp40)
abbrev Eg:Dc:=(9,.slice ax39 ((BV c (k:Int) false).length) cp40)
abbrev Fe:=(110,Ac c.Aa.xs.length)
abbrev EY:=(29,Ac c.Aa.xs.length)
abbrev CS:=(47,Ac c.Ah.xs.length)
abbrev Pi:=(10,pt w55.heap.size)
abbrev KA:=(10,pt w36.heap.size)
abbrev IG:=(124,i6 ((Iu y118:Nat):Int))
abbrev Qa:Dc:=(33,.slice aP ((Hf c i).length) cP)
abbrev Bf:=(5,pt (n2+1))
abbrev Bc:=(2,pt (z+1))
abbrev Fv:=(10,pt b50)
abbrev Du:=(7,pt n25)
abbrev OT:=[(Ak w),(BZ c z),(Ce z),(EL n2 c k),(JQ n2 c csG b119 psG cP2 aC cC),(KR c b119 psG cP2 z p t aT cT),(Dn csG z),(Dq csG aC cC z),(OV c n25 p t),(H6 psG z p),(Jg n109 y118),(OQ c z p t aT cT)]
abbrev QW:=[(Ak w),(BZ c z),(Ce z),(GY n2 c k y34),(Em n2 c aP i cP csG aC cC),(Dx c aP i cP z),(Dn csG z),(Dq csG aC cC z),(Ea y34 n25),(mid (n25+1) w36),(qzm6_5 c k y48 w55)]
abbrev QM:=[(Ak w),(BZ c z),(Ce z),(GY n2 c k y34),(Em n2 c aP i cP csG aC cC),(Dx c aP i cP z),(Dn csG z),(Dq csG aC cC z),(Ea y34 n25),(mid (n25+1) w36),(qzm6_6 c k y48 w36)]
abbrev V5:=[(Ak w),(BZ c z),(Ce z),(SE n2 c k),(Em n2 c aP i cP csG aC cC),(Dx c aP i cP z),(Dn csG z),(Dq csG aC cC z),(Ea y34 n25),(mid (n25+1) w36),(Tn w36)]
abbrev Ns:=[(Ak w),(BZ c z),(Ce z),(EL n2 c k),(Oe n2 c csG psG cP2 aC cC aP2),(Nr psG cP2 aP2 z),(Dn csG z),(Dq csG aC cC z),(Me c n25 p),(H6 psG z p)]
abbrev Ia:=[(Ak w),(BZ c z),(Ce z),(EL n2 c k),(Em n2 c aP i cP csG aC cC),(Dx c aP i cP z),(Dn csG z),(Dq csG aC cC z)]
abbrev Hm:=[(Ak w),(BZ c z),(Ce z),(bk n2 #[i6 (CG c i)] 3),(FY n2 c aP i cP),(Dx c aP i cP z)]
end
theorem ZaA(w:World)(c:Aj)(hc:Aj.ok Any w c)(hok:Eh c=true):Calls Tryd.prog 18 #[.agg (Aj.arr c)] w fun e w'=>∃ L:FK,e = .returned (.tuple #[.agg (FK.arr L),.int .i64 0])∧Ud c L∧FK.ok (New w.heap.size) w' L∧Ur w.heap.size w' L∧CZ (fun _=>False) w w':=by
 obtain⟨z,hz⟩:∃ z,z=w.heap.size:=⟨_,rfl⟩
 refine Cb (args:=[.agg (Aj.arr c)]) 148 ⟨w,z,[(Ak w)]⟩ Tryd.func18 rfl (by kernel_rfl) (by kernel_rfl) (ES hz) ?_
 have hfine:=Vf hok;have hkn:=hfine.kn;have hpn:=hfine.pn;have hcn:=hfine.cn
 refine Ee [0] [(0,.agg (Aj.arr c))] ?_
 refine q_c 7 1 [] [[o0,o0,o0],[(an 7 1)]] [Qb z,Qb z,Qb z,Qb z,Qb z,Qb z,Qb z] [(1,pt z),(Bc z),(16,.agg (Aj.arr c))] ⟨w,z+2,[(Ak w),(BZ c z),(Ce z)]⟩ rfl ⟨rfl,rfl,rfl,rfl,rfl,rfl,rfl,Af⟩ ?_
 refine BI 37 #[.agg (Aj.arr c)] (some 17) (.bool true) (fun w1 hw1=>can_yes w1 c (hc.ext (hw1.ext rfl) (fun _ h=>h)) hok) (fun n2 (hn3:z+2≤n2) => ?_)
 refine Cc 7 3 [0] [[o0],[o0,(a1 1),(ov (i6 (c.Kernel*16)))]] [Qb z,Wr ((c.Kernel:Int)*16) (c.Kernel*16)] [(1,pt z),(Bc z),(22,i6 (c.Kernel*16))] rfl ⟨rfl,CB,Af⟩ ?_
 refine l_call [] [] 38 #[i6 (c.Kernel*16)] (some 23) Af ?_
 intro w4 hw4
 refine Cb (args:=[i6 (c.Kernel*16)]) 4 ⟨w,n2,[(Ak w),(BZ c z),(Ce z)]⟩ Tryd.func38 rfl (by kernel_rfl) (by kernel_rfl) hw4 ?_
 refine q_c 9 0 [] [[o0,o0],[o0,o0]] [] [(2,.func (.func 77) #[] #[pt n2])] ⟨w,n2+1,[(Ak w),(BZ c z),(Ce z),(bk n2 #[i6 (c.Kernel*16)] 3)]⟩ rfl Af ?_
 refine AO [] [] (.func (.func 77) #[] #[pt n2]) Af ?_
 intro w5 hw5
 refine⟨_,_,rfl,hw5, ?_⟩
 refine Cc 4 1 [] [[o0],[o0]] [] [(1,pt z),(Bc z),(BU n2),(24,.func (.func 77) #[] #[pt n2])] rfl Af ?_
 refine l_call [] [] 77 #[i6 2,pt n2] (some 25) Af ?_
 intro w6 hw6
 refine Cb (args:=[i6 2,pt n2]) 10 ⟨w,n2+1,[(Ak w),(BZ c z),(Ce z),(bk n2 #[i6 (c.Kernel*16)] 3)]⟩ Tryd.func77 rfl (by kernel_rfl) (by kernel_rfl) hw6 ?_
 refine q_c 17 0 [] [[o0],[(a1 3),o0],[(a1 3),o0,(ov (i6 ((c.Kernel*16)+2))),(a1 3)],[o0,o0]] [Qb n2,Qb n2,Wr ((c.Kernel*16:Int)+2) ((c.Kernel*16)+2),Qb n2] [(3,i6 (c.Kernel*16))] ⟨w,n2+1,[(Ak w),(BZ c z),(Ce z),(bk n2 #[i6 ((c.Kernel*16)+2)] 3)]⟩ rfl ⟨rfl,rfl,CB,rfl,Af⟩ ?_
 refine AO [] [] (i6 (c.Kernel*16)) Af ?_
 intro w7 hw7
 refine⟨_,_,rfl,hw7, ?_⟩
 refine Gi 8 0 [] [[o0,o0,(an 4 4)],[o0,(a1 1),o0,o0]] [Qb (n2+1),Qb (n2+1),Qb (n2+1),Qb (n2+1),Qb z] [(1,pt z),(Bc z),(BU n2),(Bf n2),(EY c),(30,i6 0)] ⟨w,n2+2,[(Ak w),(BZ c z),(Ce z),(bk n2 #[i6 ((c.Kernel*16)+2)] 3),(bk (n2+1) #[i6 (c.Kernel*16),.slice none 0 0,.slice none 0 0,i6 0] 60)]⟩ rfl ⟨rfl,rfl,rfl,rfl,rfl,Af⟩ ?_
 refine Qr z 70 5 Ap.cells ?_
 refine DY (fun m a w'=>∃ (n9:Nat) (i:Nat) (aP:Option Addr) (cP:Nat),m=c.Aa.xs.length - i∧n2+2≤n9∧(i≤c.Aa.xs.length)∧St 148 [(1,pt z),(Bc z),(BU n2),(Bf n2),(EY c),(30,Ac i)] [] ⟨w,n9,(Hm n2 c aP i cP z w)⟩ a w') (c.Aa.xs.length - 0) ?_ ?_
 ·intro a w' hs;exact⟨(n2+2),0,none,0,rfl,Nat.le_refl _,Nat.zero_le _,by(try dsimp only[FY,Ce,BZ,Dx,BU,EY,Bf,Bc,Hm]at hs ⊢);rw[show CG c 0=(c.Kernel*16)+2 from by unfold CG;omega];exact hs⟩
 rintro m a w' ⟨n9,i,aP,cP,rfl,hn8,hki,hs⟩
 refine(?_:G Tryd.prog 148 [(1,pt z),(Bc z),(BU n2),(Bf n2),(EY c),(30,Ac i)] [] ⟨w,n9,(Hm n2 c aP i cP z w)⟩ _ _ _) a w' hs
 clear hs a w'
 have hpA:CG c i=c.Kernel*16+2+24*(i:Int):=rfl
 have hpl0:(Hf c i).length=i:=Uk
 refine DW ?_
 by_cases h10:(i:Int)<(c.Aa.xs.length:Int)
 ·refine Az 9 0 [1] [[oT]] [BT ((i:Int)<(c.Aa.xs.length:Int))] [(1,pt z),(Bc z),(BU n2),(Bf n2),(EY c),(30,Ac i),(31,.bool true)] rfl ⟨bt,Af⟩ ?_
  refine Eo 12 [0,1,2,4] [(Ak w),(BZ c z),(Ce z),(FY n2 c aP i cP)] rfl rfl ?_
  refine D6 [(0,o0),(1,(a1 3)),(2,o0),(4,o0),(6,o0)] [1,2,4,5,29,30,33,34,36,38] [Qb (n2+1)] [true,true,true,false,true,false,true,false,false,false,false,false,false] [(1,pt z),(Bc z),(BU n2),(Bf n2),(EY c),(30,Ac i),(Qa c aP i cP),(34,.func (.func 77) #[] #[pt n2]),(36,.func (.func 77) #[] #[pt n2]),(38,.func (.func 77) #[] #[pt n2])] ⟨rfl,Af⟩ ?_
  refine Bv 3 ?_
  refine Ii [] [] 77 #[i6 2,pt n2] (some 35) (by as_aux_lemma=>kernel_rfl) rfl rfl Af ?_
  intro w11 hw11
  refine Cb (args:=[i6 2,pt n2]) 10 ⟨w,n9,(Hm n2 c aP i cP z w)⟩ Tryd.func77 rfl (by kernel_rfl) (by kernel_rfl) hw11 ?_
  refine q_c 17 0 [] [[o0],[(a1 3),o0],[(a1 3),o0,(ov (i6 ((CG c i)+2))),(a1 3)],[o0,o0]] [Qb n2,Qb n2,Wr ((CG c i:Int)+2) ((CG c i)+2),Qb n2] [(3,i6 (CG c i))] ⟨w,n9,[(Ak w),(BZ c z),(Ce z),(bk n2 #[i6 ((CG c i)+2)] 3),(FY n2 c aP i cP),(Dx c aP i cP z)]⟩ rfl ⟨rfl,rfl,CB,rfl,Af⟩ ?_
  refine AO [] [] (i6 (CG c i)) Af ?_
  intro w12 hw12
  have hs13:=hw12
  refine⟨_,_,rfl,hs13,.inr (fun c hc=>hs13.all c (by first | exact hc | exact Ei (is:=[0,1,2,4]) rfl c hc)), ?_⟩
  refine Dt [1,2,4,5,29,30,33,36,38,35] [(1,pt z),(Bc z),(BU n2),(Bf n2),(EY c),(30,Ac i),(Qa c aP i cP),(36,.func (.func 77) #[] #[pt n2]),(38,.func (.func 77) #[] #[pt n2]),(35,i6 (CG c i))] ?_
  refine Bv 5 ?_
  refine Ii [] [] 77 #[i6 17,pt n2] (some 37) (by as_aux_lemma=>kernel_rfl) rfl rfl Af ?_
  intro w14 hw14
  refine Cb (args:=[i6 17,pt n2]) 10 ⟨w,n9,[(Ak w),(BZ c z),(Ce z),(bk n2 #[i6 ((CG c i)+2)] 3),(FY n2 c aP i cP),(Dx c aP i cP z)]⟩ Tryd.func77 rfl (by kernel_rfl) (by kernel_rfl) hw14 ?_
  refine q_c 17 0 [] [[o0],[(a1 3),o0],[(a1 3),o0,(ov (i6 (((CG c i)+2)+17))),(a1 3)],[o0,o0]] [Qb n2,Qb n2,Wr (((CG c i)+2:Int)+17) (((CG c i)+2)+17),Qb n2] [(3,i6 ((CG c i)+2))] ⟨w,n9,[(Ak w),(BZ c z),(Ce z),(bk n2 #[i6 (((CG c i)+2)+17)] 3),(FY n2 c aP i cP),(Dx c aP i cP z)]⟩ rfl ⟨rfl,rfl,CB,rfl,Af⟩ ?_
  refine AO [] [] (i6 ((CG c i)+2)) Af ?_
  intro w15 hw15
  have hs16:=hw15
  refine⟨_,_,rfl,hs16,.inr (fun c hc=>hs16.all c (by first | exact hc | exact Ei (is:=[0,1,2,4]) rfl c hc)), ?_⟩
  refine Dt [1,2,4,5,29,30,33,38,35,37] [(1,pt z),(Bc z),(BU n2),(Bf n2),(EY c),(30,Ac i),(Qa c aP i cP),(38,.func (.func 77) #[] #[pt n2]),(35,i6 (CG c i)),(37,i6 ((CG c i)+2))] ?_
  refine Bv 7 ?_
  refine Ii [] [] 77 #[i6 5,pt n2] (some 39) (by as_aux_lemma=>kernel_rfl) rfl rfl Af ?_
  intro w17 hw17
  refine Cb (args:=[i6 5,pt n2]) 10 ⟨w,n9,[(Ak w),(BZ c z),(Ce z),(bk n2 #[i6 (((CG c i)+2)+17)] 3),(FY n2 c aP i cP),(Dx c aP i cP z)]⟩ Tryd.func77 rfl (by kernel_rfl) (by kernel_rfl) hw17 ?_
  refine q_c 17 0 [] [[o0],[(a1 3),o0],[(a1 3),o0,(ov (i6 ((((CG c i)+2)+17)+5))),(a1 3)],[o0,o0]] [Qb n2,Qb n2,Wr ((((CG c i)+2)+17:Int)+5) ((((CG c i)+2)+17)+5),Qb n2] [(3,i6 (((CG c i)+2)+17))] ⟨w,n9,[(Ak w),(BZ c z),(Ce z),(PU n2 c i),(FY n2 c aP i cP),(Dx c aP i cP z)]⟩ rfl ⟨rfl,rfl,CB,rfl,Af⟩ ?_
  refine AO [] [] (i6 (((CG c i)+2)+17)) Af ?_
  intro w18 hw18
  have hs19:=hw18
  refine⟨_,_,rfl,hs19,.inr (fun c hc=>hs19.all c (by first | exact hc | exact Ei (is:=[0,1,2,4]) rfl c hc)), ?_⟩
  refine Dt [1,2,4,5,29,30,33,35,37,39] [(1,pt z),(Bc z),(BU n2),(Bf n2),(EY c),(30,Ac i),(Qa c aP i cP),(35,i6 (CG c i)),(37,i6 ((CG c i)+2)),(39,i6 (((CG c i)+2)+17))] ?_
  refine D6 [(8,o0)] [1,2,4,5,29,30,33,40] [] (DC 9 4) [(1,pt z),(Bc z),(BU n2),(Bf n2),(EY c),(30,Ac i),(Qa c aP i cP),(40,.agg #[i6 (CG c i),i6 ((CG c i)+2),i6 (((CG c i)+2)+17),i6 0,.slice none 0 0])] Af ?_
  refine Bv 9 ?_
  refine BC o0 [1,2,4,5,29,30,33,41] [] [(1,pt z),(Bc z),(BU n2),(Bf n2),(EY c),(30,Ac i),(Qa c aP i cP),(41,.slice (some ⟨n9,0,none⟩) 1 1)] ⟨w,n9+1,[(Ak w),(BZ c z),(Ce z),(PU n2 c i),(FY n2 c aP i cP),(Dx c aP i cP z),(UC c i n9)]⟩ [0,1,2,4] Af (.inr rfl) ?_
  refine Bv 10 ?_
  refine PS z 5 6 (Hf c i) [(⟨CG c i,(CG c i)+2,((CG c i)+2)+17,0,(⟨none,0,[]⟩:Sl Int)⟩:Ap)] Ap.cells 70 5 56 (.slice aP ((Hf c i).length) cP) n9 1 1 #[i6 (CG c i),i6 ((CG c i)+2),i6 (((CG c i)+2)+17),i6 0,.slice none 0 0] 70 (0,0) true (some 42) [0,1,2,4] (by simp only[List.length_cons,List.length_nil];omega) (show z≤n9+1 by omega) (.inr ⟨rfl,rfl⟩) (fun ax20 cp21 n22 (hn23:n9+1≤n22) => ?_)
  refine Dt [1,2,4,5,29,30,42] [(1,pt z),(Bc z),(BU n2),(Bf n2),(EY c),(30,Ac i),(Vu c i ax20 cp21)] ?_
  refine D6 [(11,o0)] [1,2,4,5,29,30,42,43] [] (DC 12 1) [(1,pt z),(Bc z),(BU n2),(Bf n2),(EY c),(30,Ac i),(Vu c i ax20 cp21),(43,.pointer (some ⟨n2+1,1,none⟩))] Af ?_
  refine Bv 12 ?_
  refine BC (a1 4) [1,2,4,5,29,30] [Qb (n2+1)] [(1,pt z),(Bc z),(BU n2),(Bf n2),(EY c),(30,Ac i)] ⟨w,n22,[(Ak w),(BZ c z),(Ce z),(PU n2 c i),(Ut n2 c i ax20 cp21),(Td c i ax20 cp21 z),(UC c i n9)]⟩ [] ⟨rfl,Af⟩ (.inl rfl) ?_
  refine DV 13 [0,1,2,3,4,5,6] [(Ak w),(BZ c z),(Ce z),(PU n2 c i),(Ut n2 c i ax20 cp21),(Td c i ax20 cp21 z),(UC c i n9)] rfl rfl ?_
  refine Dl ?_
  refine Oi 4 0 [] [[(ov (i6 ((i+1:Nat):Int))),o0]] [Wr ((i:Int)+1) (((i+1:Nat):Int))] [(1,pt z),(Bc z),(BU n2),(Bf n2),(EY c),(30,i6 ((i+1:Nat):Int))] rfl ⟨CB,Af⟩ ?_
  refine BX [0,1,2,3,4,5] [(Ak w),(BZ c z),(Ce z),(PU n2 c i),(Ut n2 c i ax20 cp21),(Td c i ax20 cp21 z)] rfl rfl ?_
  refine BR [1,2,4,5,29,30] [(1,pt z),(Bc z),(BU n2),(Bf n2),(EY c),(30,i6 ((i+1:Nat):Int))] ?_
  refine Cf (fun a w' hs=>⟨c.Aa.xs.length - (i+1),by omega,n22,(i+1),ax20,cp21,rfl,by omega,by omega,by(try dsimp only[Ut,UC,FY,Ce,PU,BZ,Td,Dx,Vu,BU,EY,Qa,Bf,Bc,Hm]at hs ⊢);rw[show CG c (i+1)=(((CG c i)+2)+17)+5 from by unfold CG;omega,Yj];exact hs⟩)
 refine Az 16 0 [0] [[oF],[o0,(a1 1),o0,o0]] [BF ((i:Int)<(c.Aa.xs.length:Int)),Qb z] [(1,pt z),(Bc z),(BU n2),(Bf n2),(Hq c),(CS c),(48,i6 0)] rfl ⟨bf,rfl,Af⟩ ?_
 refine g_fam0 z 99 3 Bh.cells ?_
 refine Qr z 91 5 Au.cells ?_
 refine DY (fun m a w'=>∃ (n25:Nat) (k:Nat) (csG:List Au) (aC:Option Addr) (cC:Nat),m=c.Ah.xs.length - k∧n9≤n25∧(k≤c.Ah.xs.length)∧(csG.length=k)∧(∀ q,q<k→∃ a cp,gd csG q=IR c q ⟨a,cp,EJ c q (Jk c q)⟩)∧St 148 [(1,pt z),(Bc z),(BU n2),(Bf n2),(Hq c),(CS c),(48,Ac k)] [] ⟨w,n25,(Ia n2 c aP i cP csG k aC cC z w)⟩ a w') (c.Ah.xs.length - 0) ?_ ?_
 ·intro a w' hs;exact⟨n9,0,([]),none,0,rfl,Nat.le_refl _,Nat.zero_le _,rfl,fun q hq=>absurd hq (Nat.not_lt_zero q),by(try dsimp only[Ut,UC,Em,FY,Ce,PU,EL,BZ,Td,Dx,Dq,Dn,Vu,Hq,BU,EY,CS,Bf,Bc,Ia,Hm]at hs ⊢);rw[show CE c 0=CG c i from by rw[show i=c.Aa.xs.length by omega];rfl];exact hs⟩
 rintro m a w' ⟨n25,k,csG,aC,cC,rfl,hn24,hkk,hcl,hcs,hs⟩
 refine(?_:G Tryd.prog 148 [(1,pt z),(Bc z),(BU n2),(Bf n2),(Hq c),(CS c),(48,Ac k)] [] ⟨w,n25,(Ia n2 c aP i cP csG k aC cC z w)⟩ _ _ _) a w' hs
 clear hs a w'
 have hcb:=Rz hfine k (by omega)
 have hp0:CG c c.Aa.xs.length=c.Kernel*16+2+24*(c.Aa.xs.length:Int):=rfl
 refine DW ?_
 by_cases h26:(k:Int)<(c.Ah.xs.length:Int)
 ·refine Az 10 0 [1] [[oT]] [BT ((k:Int)<(c.Ah.xs.length:Int))] [(1,pt z),(Bc z),(BU n2),(Bf n2),(Hq c),(CS c),(48,Ac k),(49,.bool true)] rfl ⟨bt,Af⟩ ?_
  obtain⟨b27,o28,ha29,hF31,hc30⟩:=(hc.Ah).1.all (show 0<c.Ah.xs.length by omega)
  replace ha29:c.Ah.a=some ⟨b27,o28,none⟩:=ha29
  refine Ku [(1,pt z),(Bc z),(BU n2),(Bf n2),(Df c b27 o28),(CS c),(48,Ac k),(49,.bool true)] (by(try dsimp only[Em,FY,Ce,EL,BZ,Dx,Dq,Dn,Df,Hq,BU,EY,CS,Bf,Bc,Ia,Hm]);simp only[ha29]) ?_
  have hc32:=hc30 k (show k<c.Ah.xs.length by omega)
  have he33:=(hc.Ah).2 k (show k<c.Ah.xs.length by omega)
  obtain⟨y34,hy34⟩:∃ y_,y_=gd c.Ah.xs k:=⟨_,rfl⟩
  rw[←hy34]at he33 hc32
  have hEd:=hfine.UX (k:=k) (by omega);have hsb:=LD y34;have hpb:=Ri y34;have hlb:=WV hfine (show k<c.Ah.xs.length by omega);have hEn:Jk c k=(BV c (k:Int) false).length:=rfl
  refine q_c 5 2 [] [[o0,(oi k),(ol 0 (AP.arr y34)),o0,o0,(an 3 8)],[(an 7 1),o0]] [DJ k,k<c.Ah.xs.length,Di,He w b27 (o28+k*3) (AP.arr y34),Qb n25,Qb n25,Qb n25,Qb z,Qb z,Qb z,Qb z,Qb z,Qb z,Qb z] [(1,pt z),(Bc z),(BU n2),(Bf n2),(Df c b27 o28),(CS c),(48,Ac k),(Du n25),(54,.agg (Aj.arr c)),(55,Ac k)] ⟨w,n25+1,[(Ak w),(BZ c z),(Ce z),(EL n2 c k),(Em n2 c aP i cP csG aC cC),(Dx c aP i cP z),(Dn csG z),(Dq csG aC cC z),(Ea y34 n25)]⟩ rfl ⟨rfl,(by omega),rfl,EH hc32,rfl,rfl,rfl,rfl,rfl,rfl,rfl,rfl,rfl,rfl,Af⟩ ?_
  refine l_call [] [] 39 #[.agg (Aj.arr c),Ac k] (some 56) Af ?_
  intro w35 hw35
  refine(P8 w35 c (k:Int) (hc.ext (hw35.ext rfl) (fun _ h=>h)) (by omega) (fun i hi=>ML (hfine.parts i hi))).mono ?_
  rintro e w36 ⟨ax37,cp38,ax39,cp40,rfl,hSw36,hDw36,hkw36⟩
  have hnw36:n25+1≤w36.heap.size:=Ik hw35 hkw36
  rw[hw35.size]at hSw36 hDw36
  refine⟨_,_,rfl,hw35.SC hkw36, ?_⟩
  refine Cc 3 0 [] [[o0,o0,o0,o0,o0]] [] [(1,pt z),(Bc z),(BU n2),(Bf n2),(Df c b27 o28),(CS c),(48,Ac k),(Du n25),(8,.slice ax37 ((BV c (k:Int) true).length) cp38),(Eg c k cp40 ax39)] rfl Af ?_
  obtain⟨b41,o42,ha43,hF45,hc44⟩:=((⟨hSw36,TR hfine⟩:J7 Fj.cells 2 Fj.ok _ _ _)).1.all (show 0<(BV c (k:Int) true).length by omega)
  replace ha43:ax37=some ⟨b41,o42,none⟩:=ha43
  refine Ku [(1,pt z),(Bc z),(BU n2),(Bf n2),(Df c b27 o28),(CS c),(48,Ac k),(Du n25),(8,.slice (some ⟨b41,o42,none⟩) ((BV c (k:Int) true).length) cp38),(Eg c k cp40 ax39)] (by(try dsimp only[Em,FY,Ce,EL,Ea,BZ,Dx,Dq,Dn,Df,Hq,BU,Eg,EY,CS,Bf,Bc,Du,Ia,Hm]);simp only[ha43]) ?_
  have hc46:=hc44 0 (show 0<(BV c (k:Int) true).length by omega)
  have he47:=((⟨hSw36,TR hfine⟩:J7 Fj.cells 2 Fj.ok _ _ _)).2 0 (show 0<(BV c (k:Int) true).length by omega)
  obtain⟨y48,hy48⟩:∃ y_,y_=gd (⟨ax37,cp38,BV c (k:Int) true⟩:Sl Fj).xs 0:=⟨_,rfl⟩
  rw[←hy48]at he47 hc46
  refine Eo 16 [0,1,2,4,5,6,7,8,9] [(Ak w),(BZ c z),(Ce z),(Em n2 c aP i cP csG aC cC),(Dx c aP i cP z),(Dn csG z),(Dq csG aC cC z),(Ea y34 n25),(mid (n25+1) w36)] rfl rfl ?_
  refine D6 [(0,o0),(2,o0),(3,(an 3 7)),(6,o0),(7,(oi 0)),(8,o0),(9,(oa [.via 8 (i6 y48.partition)])),(10,o0),(11,(oi 0)),(12,o0),(13,(oa [.via 8 (i6 y48.port)]))] [1,2,4,5,46,47,48,7,9,59,61,62,68,72] [Qb n25,Qb n25,Qb n25,(0:Int)=((0:Nat):Int),0<(BV c (k:Int) true).length,Di,∀ w',Ch.holds (mid (n25+1) w36) w'→w'.cell? ⟨b41,o42,none⟩=some (i6 y48.partition),(0:Int)=((0:Nat):Int),0<(BV c (k:Int) true).length,Di,∀ w',Ch.holds (mid (n25+1) w36) w'→w'.cell? ⟨b41,o42+1,none⟩=some (i6 y48.port)] [true,false,true,true,false,false,true,true,true,true,true,true,true,true,false,false,false] [(1,pt z),(Bc z),(BU n2),(Bf n2),(Df c b27 o28),(CS c),(48,Ac k),(Du n25),(Eg c k cp40 ax39),(59,.func (.func 77) #[] #[pt n2]),(Nu n2),(62,.agg (AP.arr y34)),(68,i6 y48.partition),(72,i6 y48.port)] ⟨rfl,rfl,rfl,rfl,(by omega),rfl,LJ hF45 (hc46 0 _ rfl),rfl,(by omega),rfl,LJ hF45 (hc46 1 _ rfl),Af⟩ ?_
  refine Oq (fun x:{p:Nat×Nat // w36.heap.size≤p.1∧w36.heap.size≤p.2}=>([(1,pt z),(Bc z),(BU n2),(Bf n2),(Df c b27 o28),(CS c),(48,Ac k),(Du n25),(Eg c k cp40 ax39),(10,pt x.1.2)],⟨w,x.1.1,[(Ak w),(BZ c z),(Ce z),(GY n2 c k y34),(Em n2 c aP i cP csG aC cC),(Dx c aP i cP z),(Dn csG z),(Dq csG aC cC z),(Ea y34 n25),(mid (n25+1) w36),(.blk x.1.2 (.cells #[i6 (CE c k),i6 ((CE c k)+2),i6 y48.partition,i6 y48.port,.slice none 0 0] 91 (0,0)) true)]⟩)) (fun hK => ?_) ?_
  ·refine Io [1,15] ?_
   refine List.forall_mem_cons.2 ⟨?_,List.forall_mem_cons.2 ⟨?_,fun _ h=>absurd h List.not_mem_nil⟩⟩
   ·refine Ii [] [] 77 #[i6 2,pt n2] (some 60) (by as_aux_lemma=>kernel_rfl) rfl rfl Af ?_
    intro w51 hw51
    refine Cb (args:=[i6 2,pt n2]) 10 ⟨w,w36.heap.size,[(Ak w),(BZ c z),(Ce z),(EL n2 c k),(Em n2 c aP i cP csG aC cC),(Dx c aP i cP z),(Dn csG z),(Dq csG aC cC z),(Ea y34 n25),(mid (n25+1) w36)]⟩ Tryd.func77 rfl (by kernel_rfl) (by kernel_rfl) hw51 ?_
    refine q_c 17 0 [] [[o0],[(a1 3),o0],[(a1 3),o0,(ov (i6 ((CE c k)+2))),(a1 3)],[o0,o0]] [Qb n2,Qb n2,Wr ((CE c k:Int)+2) ((CE c k)+2),Qb n2] [(3,i6 (CE c k))] ⟨w,w36.heap.size,[(Ak w),(BZ c z),(Ce z),(SE n2 c k),(Em n2 c aP i cP csG aC cC),(Dx c aP i cP z),(Dn csG z),(Dq csG aC cC z),(Ea y34 n25),(mid (n25+1) w36)]⟩ rfl ⟨rfl,rfl,CB,rfl,Af⟩ ?_
    refine AO [] [] (i6 (CE c k)) Af ?_
    intro w52 hw52
    have hs53:=hw52
    refine⟨_,_,rfl,hs53,.inr (fun c hc=>hs53.all c (by first | exact hc | exact Ei (is:=[0,1,2,4,5,6,7,8,9]) rfl c hc)), ?_⟩
    refine Dt [1,2,4,5,46,47,48,7,9,61,62,68,72,60] [(1,pt z),(Bc z),(BU n2),(Bf n2),(Df c b27 o28),(CS c),(48,Ac k),(Du n25),(Eg c k cp40 ax39),(Nu n2),(62,.agg (AP.arr y34)),(68,i6 y48.partition),(72,i6 y48.port),(60,i6 (CE c k))] ?_
    refine Io [4,15] ?_
    refine List.forall_mem_cons.2 ⟨?_,List.forall_mem_cons.2 ⟨?_,fun _ h=>absurd h List.not_mem_nil⟩⟩
    ·refine Ii [] [] 40 #[.agg (AP.arr y34)] (some 63) (by as_aux_lemma=>kernel_rfl) rfl rfl Af ?_
     intro w54 hw54
     refine(Ou w54 y34 (he33.ext (hw54.ext rfl) (fun _ h=>h))).mono ?_
     rintro e w55 ⟨rfl,hkw55⟩
     have hnw55:w36.heap.size≤w55.heap.size:=Ik hw54 hkw55
     have hs56:=hw54.keeps hkw55
     refine⟨_,_,rfl,hs56,.inr (fun c hc=>hs56.all c (by first | exact hc | exact Ei (is:=[0,1,2,4,5,6,7,8,9]) rfl c hc)), ?_⟩
     refine Dt [1,2,4,5,46,47,48,7,9,61,68,72,60,63] [(1,pt z),(Bc z),(BU n2),(Bf n2),(Df c b27 o28),(CS c),(48,Ac k),(Du n25),(Eg c k cp40 ax39),(Nu n2),(68,i6 y48.partition),(72,i6 y48.port),(60,i6 (CE c k)),(63,i6 (Bz y34))] ?_
     refine Io [5,15] ?_
     refine List.forall_mem_cons.2 ⟨?_,List.forall_mem_cons.2 ⟨?_,fun _ h=>absurd h List.not_mem_nil⟩⟩
     ·refine Ii [] [] 77 #[i6 (Bz y34),pt n2] (some 64) (by as_aux_lemma=>kernel_rfl) rfl rfl Af ?_
      intro w57 hw57
      refine Cb (args:=[i6 (Bz y34),pt n2]) 10 ⟨w,w55.heap.size,[(Ak w),(BZ c z),(Ce z),(SE n2 c k),(Em n2 c aP i cP csG aC cC),(Dx c aP i cP z),(Dn csG z),(Dq csG aC cC z),(Ea y34 n25),(mid (n25+1) w36)]⟩ Tryd.func77 rfl (by kernel_rfl) (by kernel_rfl) hw57 ?_
      refine q_c 17 0 [] [[o0],[(a1 3),o0],[(a1 3),o0,(ov (i6 (((CE c k)+2)+(Bz y34)))),(a1 3)],[o0,o0]] [Qb n2,Qb n2,Wr (((CE c k)+2:Int)+(Bz y34)) (((CE c k)+2)+(Bz y34)),Qb n2] [(3,i6 ((CE c k)+2))] ⟨w,w55.heap.size,[(Ak w),(BZ c z),(Ce z),(GY n2 c k y34),(Em n2 c aP i cP csG aC cC),(Dx c aP i cP z),(Dn csG z),(Dq csG aC cC z),(Ea y34 n25),(mid (n25+1) w36)]⟩ rfl ⟨rfl,rfl,CB,rfl,Af⟩ ?_
      refine AO [] [] (i6 ((CE c k)+2)) Af ?_
      intro w58 hw58
      have hs59:=hw58
      refine⟨_,_,rfl,hs59,.inr (fun c hc=>hs59.all c (by first | exact hc | exact Ei (is:=[0,1,2,4,5,6,7,8,9]) rfl c hc)), ?_⟩
      refine Dt [1,2,4,5,46,47,48,7,9,68,72,60,64] [(1,pt z),(Bc z),(BU n2),(Bf n2),(Df c b27 o28),(CS c),(48,Ac k),(Du n25),(Eg c k cp40 ax39),(68,i6 y48.partition),(72,i6 y48.port),(60,i6 (CE c k)),(64,i6 ((CE c k)+2))] ?_
      refine D6 [(14,o0)] [1,2,4,5,46,47,48,7,9,73] [] (DC 15 2) [(1,pt z),(Bc z),(BU n2),(Bf n2),(Df c b27 o28),(CS c),(48,Ac k),(Du n25),(Eg c k cp40 ax39),(Tc c k y48)] Af ?_
      refine Bv 15 ?_
      refine BC o0 [1,2,4,5,46,47,48,7,9,73,10] [] [(1,pt z),(Bc z),(BU n2),(Bf n2),(Df c b27 o28),(CS c),(48,Ac k),(Du n25),(Eg c k cp40 ax39),(Tc c k y48),(Pi w55)] ⟨w,w55.heap.size+1,[(Ak w),(BZ c z),(Ce z),(GY n2 c k y34),(Em n2 c aP i cP csG aC cC),(Dx c aP i cP z),(Dn csG z),(Dq csG aC cC z),(Ea y34 n25),(mid (n25+1) w36),(Vg w55)]⟩ [0,1,2,4,5,6,7,8,9] Af (.inr rfl) ?_
      refine Bv 16 ?_
      refine BC (an 5 10) [1,2,4,5,46,47,48,7,9,10] [Qb w55.heap.size,Qb w55.heap.size,Qb w55.heap.size,Qb w55.heap.size,Qb w55.heap.size] [(1,pt z),(Bc z),(BU n2),(Bf n2),(Df c b27 o28),(CS c),(48,Ac k),(Du n25),(Eg c k cp40 ax39),(Pi w55)] ⟨w,w55.heap.size+1,(QW n2 c aP i cP csG k y48 w55 w36 aC cC z y34 n25 w)⟩ [] ⟨rfl,rfl,rfl,rfl,rfl,Af⟩ (.inl rfl) ?_
      refine DV 17 [0,1,2,3,4,5,6,7,8,9,10] (QW n2 c aP i cP csG k y48 w55 w36 aC cC z y34 n25 w) rfl rfl ?_
      refine Dl ?_
      refine BR [1,2,4,5,46,47,48,7,9,10] [(1,pt z),(Bc z),(BU n2),(Bf n2),(Df c b27 o28),(CS c),(48,Ac k),(Du n25),(Eg c k cp40 ax39),(Pi w55)] ?_
      refine BX [0,1,2,3,4,5,6,7,8,9,10] (QW n2 c aP i cP csG k y48 w55 w36 aC cC z y34 n25 w) rfl rfl ?_
      exact hK ⟨(w55.heap.size+1,w55.heap.size),by first | omega | (dsimp only;omega)⟩
     refine BC o0 [1,2,4,5,46,47,48,7,9,61,68,72,60,63,10] [] [(1,pt z),(Bc z),(BU n2),(Bf n2),(Df c b27 o28),(CS c),(48,Ac k),(Du n25),(Eg c k cp40 ax39),(Nu n2),(68,i6 y48.partition),(72,i6 y48.port),(60,i6 (CE c k)),(63,i6 (Bz y34)),(Pi w55)] ⟨w,w55.heap.size+1,[(Ak w),(BZ c z),(Ce z),(SE n2 c k),(Em n2 c aP i cP csG aC cC),(Dx c aP i cP z),(Dn csG z),(Dq csG aC cC z),(Ea y34 n25),(mid (n25+1) w36),(Vg w55)]⟩ [0,1,2,4,5,6,7,8,9] Af (.inr rfl) ?_
     refine Bv 5 ?_
     refine Ii [] [] 77 #[i6 (Bz y34),pt n2] (some 64) (by as_aux_lemma=>kernel_rfl) rfl rfl Af ?_
     intro w60 hw60
     refine Cb (args:=[i6 (Bz y34),pt n2]) 10 ⟨w,w55.heap.size+1,[(Ak w),(BZ c z),(Ce z),(SE n2 c k),(Em n2 c aP i cP csG aC cC),(Dx c aP i cP z),(Dn csG z),(Dq csG aC cC z),(Ea y34 n25),(mid (n25+1) w36),(Vg w55)]⟩ Tryd.func77 rfl (by kernel_rfl) (by kernel_rfl) hw60 ?_
     refine q_c 17 0 [] [[o0],[(a1 3),o0],[(a1 3),o0,(ov (i6 (((CE c k)+2)+(Bz y34)))),(a1 3)],[o0,o0]] [Qb n2,Qb n2,Wr (((CE c k)+2:Int)+(Bz y34)) (((CE c k)+2)+(Bz y34)),Qb n2] [(3,i6 ((CE c k)+2))] ⟨w,w55.heap.size+1,[(Ak w),(BZ c z),(Ce z),(GY n2 c k y34),(Em n2 c aP i cP csG aC cC),(Dx c aP i cP z),(Dn csG z),(Dq csG aC cC z),(Ea y34 n25),(mid (n25+1) w36),(Vg w55)]⟩ rfl ⟨rfl,rfl,CB,rfl,Af⟩ ?_
     refine AO [] [] (i6 ((CE c k)+2)) Af ?_
     intro w61 hw61
     have hs62:=hw61
     refine⟨_,_,rfl,hs62,.inr (fun c hc=>hs62.all c (by first | exact hc | exact Ei (is:=[0,1,2,4,5,6,7,8,9]) rfl c hc)), ?_⟩
     refine Dt [1,2,4,5,46,47,48,7,9,68,72,60,10,64] [(1,pt z),(Bc z),(BU n2),(Bf n2),(Df c b27 o28),(CS c),(48,Ac k),(Du n25),(Eg c k cp40 ax39),(68,i6 y48.partition),(72,i6 y48.port),(60,i6 (CE c k)),(Pi w55),(64,i6 ((CE c k)+2))] ?_
     refine D6 [(14,o0)] [1,2,4,5,46,47,48,7,9,10,73] [] (DC 16 1) [(1,pt z),(Bc z),(BU n2),(Bf n2),(Df c b27 o28),(CS c),(48,Ac k),(Du n25),(Eg c k cp40 ax39),(Pi w55),(Tc c k y48)] Af ?_
     refine Bv 16 ?_
     refine BC (an 5 10) [1,2,4,5,46,47,48,7,9,10] [Qb w55.heap.size,Qb w55.heap.size,Qb w55.heap.size,Qb w55.heap.size,Qb w55.heap.size] [(1,pt z),(Bc z),(BU n2),(Bf n2),(Df c b27 o28),(CS c),(48,Ac k),(Du n25),(Eg c k cp40 ax39),(Pi w55)] ⟨w,w55.heap.size+1,(QW n2 c aP i cP csG k y48 w55 w36 aC cC z y34 n25 w)⟩ [] ⟨rfl,rfl,rfl,rfl,rfl,Af⟩ (.inl rfl) ?_
     refine DV 17 [0,1,2,3,4,5,6,7,8,9,10] (QW n2 c aP i cP csG k y48 w55 w36 aC cC z y34 n25 w) rfl rfl ?_
     refine Dl ?_
     refine BR [1,2,4,5,46,47,48,7,9,10] [(1,pt z),(Bc z),(BU n2),(Bf n2),(Df c b27 o28),(CS c),(48,Ac k),(Du n25),(Eg c k cp40 ax39),(Pi w55)] ?_
     refine BX [0,1,2,3,4,5,6,7,8,9,10] (QW n2 c aP i cP csG k y48 w55 w36 aC cC z y34 n25 w) rfl rfl ?_
     exact hK ⟨(w55.heap.size+1,w55.heap.size),by first | omega | (dsimp only;omega)⟩
    refine BC o0 [1,2,4,5,46,47,48,7,9,61,62,68,72,60,10] [] [(1,pt z),(Bc z),(BU n2),(Bf n2),(Df c b27 o28),(CS c),(48,Ac k),(Du n25),(Eg c k cp40 ax39),(Nu n2),(62,.agg (AP.arr y34)),(68,i6 y48.partition),(72,i6 y48.port),(60,i6 (CE c k)),(KA w36)] ⟨w,w36.heap.size+1,(V5 n2 c aP i cP csG k w36 aC cC z y34 n25 w)⟩ [0,1,2,4,5,6,7,8,9] Af (.inr rfl) ?_
    refine Bv 4 ?_
    refine Ii [] [] 40 #[.agg (AP.arr y34)] (some 63) (by as_aux_lemma=>kernel_rfl) rfl rfl Af ?_
    intro w63 hw63
    refine(Ou w63 y34 (he33.ext (hw63.ext rfl) (fun _ h=>h))).mono ?_
    rintro e w64 ⟨rfl,hkw64⟩
    have hnw64:w36.heap.size+1≤w64.heap.size:=Ik hw63 hkw64
    have hs65:=hw63.keeps hkw64
    refine⟨_,_,rfl,hs65,.inr (fun c hc=>hs65.all c (by first | exact hc | exact Ei (is:=[0,1,2,4,5,6,7,8,9]) rfl c hc)), ?_⟩
    refine Dt [1,2,4,5,46,47,48,7,9,61,68,72,60,10,63] [(1,pt z),(Bc z),(BU n2),(Bf n2),(Df c b27 o28),(CS c),(48,Ac k),(Du n25),(Eg c k cp40 ax39),(Nu n2),(68,i6 y48.partition),(72,i6 y48.port),(60,i6 (CE c k)),(KA w36),(63,i6 (Bz y34))] ?_
    refine Bv 5 ?_
    refine Ii [] [] 77 #[i6 (Bz y34),pt n2] (some 64) (by as_aux_lemma=>kernel_rfl) rfl rfl Af ?_
    intro w66 hw66
    refine Cb (args:=[i6 (Bz y34),pt n2]) 10 ⟨w,w64.heap.size,(V5 n2 c aP i cP csG k w36 aC cC z y34 n25 w)⟩ Tryd.func77 rfl (by kernel_rfl) (by kernel_rfl) hw66 ?_
    refine q_c 17 0 [] [[o0],[(a1 3),o0],[(a1 3),o0,(ov (i6 (((CE c k)+2)+(Bz y34)))),(a1 3)],[o0,o0]] [Qb n2,Qb n2,Wr (((CE c k)+2:Int)+(Bz y34)) (((CE c k)+2)+(Bz y34)),Qb n2] [(3,i6 ((CE c k)+2))] ⟨w,w64.heap.size,[(Ak w),(BZ c z),(Ce z),(GY n2 c k y34),(Em n2 c aP i cP csG aC cC),(Dx c aP i cP z),(Dn csG z),(Dq csG aC cC z),(Ea y34 n25),(mid (n25+1) w36),(Tn w36)]⟩ rfl ⟨rfl,rfl,CB,rfl,Af⟩ ?_
    refine AO [] [] (i6 ((CE c k)+2)) Af ?_
    intro w67 hw67
    have hs68:=hw67
    refine⟨_,_,rfl,hs68,.inr (fun c hc=>hs68.all c (by first | exact hc | exact Ei (is:=[0,1,2,4,5,6,7,8,9]) rfl c hc)), ?_⟩
    refine Dt [1,2,4,5,46,47,48,7,9,68,72,60,10,64] [(1,pt z),(Bc z),(BU n2),(Bf n2),(Df c b27 o28),(CS c),(48,Ac k),(Du n25),(Eg c k cp40 ax39),(68,i6 y48.partition),(72,i6 y48.port),(60,i6 (CE c k)),(KA w36),(64,i6 ((CE c k)+2))] ?_
    refine D6 [(14,o0)] [1,2,4,5,46,47,48,7,9,10,73] [] (DC 16 1) [(1,pt z),(Bc z),(BU n2),(Bf n2),(Df c b27 o28),(CS c),(48,Ac k),(Du n25),(Eg c k cp40 ax39),(KA w36),(Tc c k y48)] Af ?_
    refine Bv 16 ?_
    refine BC (an 5 10) [1,2,4,5,46,47,48,7,9,10] [Qb w36.heap.size,Qb w36.heap.size,Qb w36.heap.size,Qb w36.heap.size,Qb w36.heap.size] [(1,pt z),(Bc z),(BU n2),(Bf n2),(Df c b27 o28),(CS c),(48,Ac k),(Du n25),(Eg c k cp40 ax39),(KA w36)] ⟨w,w64.heap.size,(QM n2 c aP i cP csG k y48 w36 aC cC z y34 n25 w)⟩ [] ⟨rfl,rfl,rfl,rfl,rfl,Af⟩ (.inl rfl) ?_
    refine DV 17 [0,1,2,3,4,5,6,7,8,9,10] (QM n2 c aP i cP csG k y48 w36 aC cC z y34 n25 w) rfl rfl ?_
    refine Dl ?_
    refine BR [1,2,4,5,46,47,48,7,9,10] [(1,pt z),(Bc z),(BU n2),(Bf n2),(Df c b27 o28),(CS c),(48,Ac k),(Du n25),(Eg c k cp40 ax39),(KA w36)] ?_
    refine BX [0,1,2,3,4,5,6,7,8,9,10] (QM n2 c aP i cP csG k y48 w36 aC cC z y34 n25 w) rfl rfl ?_
    exact hK ⟨(w64.heap.size,w36.heap.size),by first | omega | (dsimp only;omega)⟩
   refine BC o0 [1,2,4,5,46,47,48,7,9,59,61,62,68,72,10] [] [(1,pt z),(Bc z),(BU n2),(Bf n2),(Df c b27 o28),(CS c),(48,Ac k),(Du n25),(Eg c k cp40 ax39),(59,.func (.func 77) #[] #[pt n2]),(Nu n2),(62,.agg (AP.arr y34)),(68,i6 y48.partition),(72,i6 y48.port),(KA w36)] ⟨w,w36.heap.size+1,[(Ak w),(BZ c z),(Ce z),(EL n2 c k),(Em n2 c aP i cP csG aC cC),(Dx c aP i cP z),(Dn csG z),(Dq csG aC cC z),(Ea y34 n25),(mid (n25+1) w36),(Tn w36)]⟩ [0,1,2,4,5,6,7,8,9] Af (.inr rfl) ?_
   refine Bv 1 ?_
   refine Ii [] [] 77 #[i6 2,pt n2] (some 60) (by as_aux_lemma=>kernel_rfl) rfl rfl Af ?_
   intro w69 hw69
   refine Cb (args:=[i6 2,pt n2]) 10 ⟨w,w36.heap.size+1,[(Ak w),(BZ c z),(Ce z),(EL n2 c k),(Em n2 c aP i cP csG aC cC),(Dx c aP i cP z),(Dn csG z),(Dq csG aC cC z),(Ea y34 n25),(mid (n25+1) w36),(Tn w36)]⟩ Tryd.func77 rfl (by kernel_rfl) (by kernel_rfl) hw69 ?_
   refine q_c 17 0 [] [[o0],[(a1 3),o0],[(a1 3),o0,(ov (i6 ((CE c k)+2))),(a1 3)],[o0,o0]] [Qb n2,Qb n2,Wr ((CE c k:Int)+2) ((CE c k)+2),Qb n2] [(3,i6 (CE c k))] ⟨w,w36.heap.size+1,(V5 n2 c aP i cP csG k w36 aC cC z y34 n25 w)⟩ rfl ⟨rfl,rfl,CB,rfl,Af⟩ ?_
   refine AO [] [] (i6 (CE c k)) Af ?_
   intro w70 hw70
   have hs71:=hw70
   refine⟨_,_,rfl,hs71,.inr (fun c hc=>hs71.all c (by first | exact hc | exact Ei (is:=[0,1,2,4,5,6,7,8,9]) rfl c hc)), ?_⟩
   refine Dt [1,2,4,5,46,47,48,7,9,61,62,68,72,10,60] [(1,pt z),(Bc z),(BU n2),(Bf n2),(Df c b27 o28),(CS c),(48,Ac k),(Du n25),(Eg c k cp40 ax39),(Nu n2),(62,.agg (AP.arr y34)),(68,i6 y48.partition),(72,i6 y48.port),(KA w36),(60,i6 (CE c k))] ?_
   refine Bv 4 ?_
   refine Ii [] [] 40 #[.agg (AP.arr y34)] (some 63) (by as_aux_lemma=>kernel_rfl) rfl rfl Af ?_
   intro w72 hw72
   refine(Ou w72 y34 (he33.ext (hw72.ext rfl) (fun _ h=>h))).mono ?_
   rintro e w73 ⟨rfl,hkw73⟩
   have hnw73:w36.heap.size+1≤w73.heap.size:=Ik hw72 hkw73
   have hs74:=hw72.keeps hkw73
   refine⟨_,_,rfl,hs74,.inr (fun c hc=>hs74.all c (by first | exact hc | exact Ei (is:=[0,1,2,4,5,6,7,8,9]) rfl c hc)), ?_⟩
   refine Dt [1,2,4,5,46,47,48,7,9,61,68,72,10,60,63] [(1,pt z),(Bc z),(BU n2),(Bf n2),(Df c b27 o28),(CS c),(48,Ac k),(Du n25),(Eg c k cp40 ax39),(Nu n2),(68,i6 y48.partition),(72,i6 y48.port),(KA w36),(60,i6 (CE c k)),(63,i6 (Bz y34))] ?_
   refine Bv 5 ?_
   refine Ii [] [] 77 #[i6 (Bz y34),pt n2] (some 64) (by as_aux_lemma=>kernel_rfl) rfl rfl Af ?_
   intro w75 hw75
   refine Cb (args:=[i6 (Bz y34),pt n2]) 10 ⟨w,w73.heap.size,(V5 n2 c aP i cP csG k w36 aC cC z y34 n25 w)⟩ Tryd.func77 rfl (by kernel_rfl) (by kernel_rfl) hw75 ?_
   refine q_c 17 0 [] [[o0],[(a1 3),o0],[(a1 3),o0,(ov (i6 (((CE c k)+2)+(Bz y34)))),(a1 3)],[o0,o0]] [Qb n2,Qb n2,Wr (((CE c k)+2:Int)+(Bz y34)) (((CE c k)+2)+(Bz y34)),Qb n2] [(3,i6 ((CE c k)+2))] ⟨w,w73.heap.size,[(Ak w),(BZ c z),(Ce z),(GY n2 c k y34),(Em n2 c aP i cP csG aC cC),(Dx c aP i cP z),(Dn csG z),(Dq csG aC cC z),(Ea y34 n25),(mid (n25+1) w36),(Tn w36)]⟩ rfl ⟨rfl,rfl,CB,rfl,Af⟩ ?_
   refine AO [] [] (i6 ((CE c k)+2)) Af ?_
   intro w76 hw76
   have hs77:=hw76
   refine⟨_,_,rfl,hs77,.inr (fun c hc=>hs77.all c (by first | exact hc | exact Ei (is:=[0,1,2,4,5,6,7,8,9]) rfl c hc)), ?_⟩
   refine Dt [1,2,4,5,46,47,48,7,9,68,72,10,60,64] [(1,pt z),(Bc z),(BU n2),(Bf n2),(Df c b27 o28),(CS c),(48,Ac k),(Du n25),(Eg c k cp40 ax39),(68,i6 y48.partition),(72,i6 y48.port),(KA w36),(60,i6 (CE c k)),(64,i6 ((CE c k)+2))] ?_
   refine D6 [(14,o0)] [1,2,4,5,46,47,48,7,9,10,73] [] (DC 16 1) [(1,pt z),(Bc z),(BU n2),(Bf n2),(Df c b27 o28),(CS c),(48,Ac k),(Du n25),(Eg c k cp40 ax39),(KA w36),(Tc c k y48)] Af ?_
   refine Bv 16 ?_
   refine BC (an 5 10) [1,2,4,5,46,47,48,7,9,10] [Qb w36.heap.size,Qb w36.heap.size,Qb w36.heap.size,Qb w36.heap.size,Qb w36.heap.size] [(1,pt z),(Bc z),(BU n2),(Bf n2),(Df c b27 o28),(CS c),(48,Ac k),(Du n25),(Eg c k cp40 ax39),(KA w36)] ⟨w,w73.heap.size,(QM n2 c aP i cP csG k y48 w36 aC cC z y34 n25 w)⟩ [] ⟨rfl,rfl,rfl,rfl,rfl,Af⟩ (.inl rfl) ?_
   refine DV 17 [0,1,2,3,4,5,6,7,8,9,10] (QM n2 c aP i cP csG k y48 w36 aC cC z y34 n25 w) rfl rfl ?_
   refine Dl ?_
   refine BR [1,2,4,5,46,47,48,7,9,10] [(1,pt z),(Bc z),(BU n2),(Bf n2),(Df c b27 o28),(CS c),(48,Ac k),(Du n25),(Eg c k cp40 ax39),(KA w36)] ?_
   refine BX [0,1,2,3,4,5,6,7,8,9,10] (QM n2 c aP i cP csG k y48 w36 aC cC z y34 n25 w) rfl rfl ?_
   exact hK ⟨(w73.heap.size,w36.heap.size),by first | omega | (dsimp only;omega)⟩
  rintro⟨⟨n49,b50⟩,hJ78⟩
  simp only at hJ78
  show E _ _ [(1,pt z),(Bc z),(BU n2),(Bf n2),(Df c b27 o28),(CS c),(48,Ac k),(Du n25),(Eg c k cp40 ax39),(Fv b50)] _ ⟨w,n49,[(Ak w),(BZ c z),(Ce z),(GY n2 c k y34),(Em n2 c aP i cP csG aC cC),(Dx c aP i cP z),(Dn csG z),(Dq csG aC cC z),(Ea y34 n25),(mid (n25+1) w36),(bk b50 #[i6 (CE c k),i6 ((CE c k)+2),i6 y48.partition,i6 y48.port,.slice none 0 0] 91)]⟩ _ _ _
  refine Oi 7 0 [] [[o0,o0,o0]] [] [(1,pt z),(Bc z),(BU n2),(Bf n2),(Df c b27 o28),(CS c),(48,Ac k),(Du n25),(Fv b50),(Iy c k cp40 ax39),(F6 c k),(76,i6 0)] rfl Af ?_
  refine Qr z 99 3 Bh.cells ?_
  refine Ee [1,2,4,5,7,10,46,47,48,74,75,76] [(1,pt z),(Bc z),(BU n2),(Bf n2),(Du n25),(Fv b50),(Df c b27 o28),(CS c),(48,Ac k),(Iy c k cp40 ax39),(F6 c k),(76,i6 0)] ?_
  refine DY (fun m a w'=>∃ (n80:Nat) (j:Nat) (aD:Option Addr) (cD:Nat),m=(BV c (k:Int) false).length - j∧n49≤n80∧(j≤(BV c (k:Int) false).length)∧St 148 [(1,pt z),(Bc z),(BU n2),(Bf n2),(Du n25),(Fv b50),(Df c b27 o28),(CS c),(48,Ac k),(Iy c k cp40 ax39),(F6 c k),(76,Ac j)] [] ⟨w,n80,[(Ak w),(BZ c z),(Ce z),(Ho n2 c k j),(Em n2 c aP i cP csG aC cC),(Dx c aP i cP z),(Dn csG z),(Dq csG aC cC z),(Ea y34 n25),(mid (n25+1) w36),(Ir c k y48 aD cD j b50),(Ht c k aD cD j z)]⟩ a w') ((BV c (k:Int) false).length - 0) ?_ ?_
  ·intro a w' hs;exact⟨n49,0,none,0,rfl,Nat.le_refl _,Nat.zero_le _,by(try dsimp only[Ir,Em,FY,Ce,GY,Ho,EL,Ea,BZ,Dx,Ht,Dq,Dn,Df,F6,Hq,Nu,BU,Iy,Eg,EY,CS,Bf,Bc,Fv,Du,Ia,Hm]at hs ⊢);rw[show GR c k 0=((CE c k)+2)+(Bz y34)from by unfold GR;rw[←hy34];omega];exact hs⟩
  rintro m a w' ⟨n80,j,aD,cD,rfl,hn79,hkj,hs⟩
  refine(?_:G Tryd.prog 148 [(1,pt z),(Bc z),(BU n2),(Bf n2),(Du n25),(Fv b50),(Df c b27 o28),(CS c),(48,Ac k),(Iy c k cp40 ax39),(F6 c k),(76,Ac j)] [] ⟨w,n80,[(Ak w),(BZ c z),(Ce z),(Ho n2 c k j),(Em n2 c aP i cP csG aC cC),(Dx c aP i cP z),(Dn csG z),(Dq csG aC cC z),(Ea y34 n25),(mid (n25+1) w36),(Ir c k y48 aD cD j b50),(Ht c k aD cD j z)]⟩ _ _ _) a w' hs
  clear hs a w'
  have hdb:=Yq hfine (show k<c.Ah.xs.length by omega) (show j≤4 by unfold Jk at hEd;omega)
  have hdl:(EJ c k j).length=j:=Sm
  refine DW ?_
  by_cases h81:(j:Int)<(((BV c (k:Int) false).length:Nat):Int)
  ·refine Az 10 0 [1] [[oT]] [BT ((j:Int)<(((BV c (k:Int) false).length:Nat):Int))] [(1,pt z),(Bc z),(BU n2),(Bf n2),(Du n25),(Fv b50),(Df c b27 o28),(CS c),(48,Ac k),(Iy c k cp40 ax39),(F6 c k),(76,Ac j),(77,.bool true)] rfl ⟨bt,Af⟩ ?_
   obtain⟨b82,o83,ha84,hF86,hc85⟩:=((⟨hDw36,TR hfine⟩:J7 Fj.cells 2 Fj.ok _ _ _)).1.all (show 0<(BV c (k:Int) false).length by omega)
   replace ha84:ax39=some ⟨b82,o83,none⟩:=ha84
   refine Ku [(1,pt z),(Bc z),(BU n2),(Bf n2),(Du n25),(Fv b50),(Df c b27 o28),(CS c),(48,Ac k),(Jt c k b82 o83 cp40),(F6 c k),(76,Ac j),(77,.bool true)] (by(try dsimp only[Ir,Em,FY,Ce,GY,Ho,EL,Ea,BZ,Dx,Ht,Dq,Dn,Jt,Df,F6,Hq,BU,Iy,Eg,EY,CS,Bf,Bc,Fv,Du,Ia,Hm]);simp only[ha84]) ?_
   have hc87:=hc85 j (show j<(BV c (k:Int) false).length by omega)
   have he88:=((⟨hDw36,TR hfine⟩:J7 Fj.cells 2 Fj.ok _ _ _)).2 j (show j<(BV c (k:Int) false).length by omega)
   obtain⟨y89,hy89⟩:∃ y_,y_=gd (⟨ax39,cp40,BV c (k:Int) false⟩:Sl Fj).xs j:=⟨_,rfl⟩
   rw[←hy89]at he88 hc87
   refine q_c 3 0 [] [[(oi j),(oa [.via 9 (i6 y89.partition),.via 9 (i6 y89.port)]),o0,(an 2 12)]] [DJ j,j<(BV c (k:Int) false).length,Di,∀ w',Ch.holds (mid (n25+1) w36) w'→w'.cell? ⟨b82,o83+j*2,none⟩=some (i6 y89.partition),∀ w',Ch.holds (mid (n25+1) w36) w'→w'.cell? ⟨b82,o83+j*2+1,none⟩=some (i6 y89.port),Qb n80,Qb n80] [(1,pt z),(Bc z),(BU n2),(Bf n2),(Du n25),(Fv b50),(Df c b27 o28),(CS c),(48,Ac k),(Jt c k b82 o83 cp40),(F6 c k),(76,Ac j),(12,pt n80)] ⟨w,n80+1,[(Ak w),(BZ c z),(Ce z),(Ho n2 c k j),(Em n2 c aP i cP csG aC cC),(Dx c aP i cP z),(Dn csG z),(Dq csG aC cC z),(Ea y34 n25),(mid (n25+1) w36),(Ir c k y48 aD cD j b50),(Ht c k aD cD j z),(LW y89 n80)]⟩ rfl ⟨rfl,(by omega),rfl,LJ hF86 (hc87 0 _ rfl),LJ hF86 (hc87 1 _ rfl),rfl,rfl,Af⟩ ?_
   refine Eo 14 [0,1,2,4,5,6,7,8,9,10,12] [(Ak w),(BZ c z),(Ce z),(Em n2 c aP i cP csG aC cC),(Dx c aP i cP z),(Dn csG z),(Dq csG aC cC z),(Ea y34 n25),(mid (n25+1) w36),(Ir c k y48 aD cD j b50),(LW y89 n80)] rfl rfl ?_
   refine D6 [(0,o0),(1,(a1 9)),(2,o0),(3,(a1 10)),(4,o0),(5,(a1 10)),(6,o0),(7,(an 3 7))] [1,2,4,5,7,10,46,47,48,74,75,76,81,83,85,86,87] [Qb b50,Qb n80,Qb n80,Qb n25,Qb n25,Qb n25] (DC 8 7) [(1,pt z),(Bc z),(BU n2),(Bf n2),(Du n25),(Fv b50),(Df c b27 o28),(CS c),(48,Ac k),(Jt c k b82 o83 cp40),(F6 c k),(76,Ac j),(81,.slice aD ((EJ c k j).length) cD),(83,i6 y89.partition),(85,i6 y89.port),(86,.func (.func 77) #[] #[pt n2]),(87,.agg (AP.arr y34))] ⟨rfl,rfl,rfl,rfl,rfl,rfl,Af⟩ ?_
   refine Bv 8 ?_
   refine Ii [] [] 41 #[.agg (AP.arr y34)] (some 88) (by as_aux_lemma=>kernel_rfl) rfl rfl Af ?_
   intro w90 hw90
   refine(Zak w90 y34 (he33.ext (hw90.ext rfl) (fun _ h=>h))).mono ?_
   rintro e w91 ⟨rfl,hkw91⟩
   have hnw91:n80+1≤w91.heap.size:=Ik hw90 hkw91
   have hs92:=hw90.keeps hkw91
   refine⟨_,_,rfl,hs92,.inr (fun c hc=>hs92.all c (by first | exact hc | exact Ei (is:=[0,1,2,4,5,6,7,8,9,10,12]) rfl c hc)), ?_⟩
   refine Dt [1,2,4,5,7,10,46,47,48,74,75,76,81,83,85,86,88] [(1,pt z),(Bc z),(BU n2),(Bf n2),(Du n25),(Fv b50),(Df c b27 o28),(CS c),(48,Ac k),(Jt c k b82 o83 cp40),(F6 c k),(76,Ac j),(81,.slice aD ((EJ c k j).length) cD),(83,i6 y89.partition),(85,i6 y89.port),(86,.func (.func 77) #[] #[pt n2]),(88,i6 (portOf y34))] ?_
   refine Bv 9 ?_
   refine Ii [] [] 77 #[i6 (portOf y34),pt n2] (some 89) (by as_aux_lemma=>kernel_rfl) rfl rfl Af ?_
   intro w93 hw93
   refine Cb (args:=[i6 (portOf y34),pt n2]) 10 ⟨w,w91.heap.size,[(Ak w),(BZ c z),(Ce z),(Ho n2 c k j),(Em n2 c aP i cP csG aC cC),(Dx c aP i cP z),(Dn csG z),(Dq csG aC cC z),(Ea y34 n25),(mid (n25+1) w36),(Ir c k y48 aD cD j b50),(Ht c k aD cD j z),(LW y89 n80)]⟩ Tryd.func77 rfl (by kernel_rfl) (by kernel_rfl) hw93 ?_
   refine q_c 17 0 [] [[o0],[(a1 3),o0],[(a1 3),o0,(ov (i6 ((GR c k j)+(portOf y34)))),(a1 3)],[o0,o0]] [Qb n2,Qb n2,Wr ((GR c k j:Int)+(portOf y34)) ((GR c k j)+(portOf y34)),Qb n2] [(3,i6 (GR c k j))] ⟨w,w91.heap.size,[(Ak w),(BZ c z),(Ce z),(Ob n2 c k j y34),(Em n2 c aP i cP csG aC cC),(Dx c aP i cP z),(Dn csG z),(Dq csG aC cC z),(Ea y34 n25),(mid (n25+1) w36),(Ir c k y48 aD cD j b50),(Ht c k aD cD j z),(LW y89 n80)]⟩ rfl ⟨rfl,rfl,CB,rfl,Af⟩ ?_
   refine AO [] [] (i6 (GR c k j)) Af ?_
   intro w94 hw94
   have hs95:=hw94
   refine⟨_,_,rfl,hs95,.inr (fun c hc=>hs95.all c (by first | exact hc | exact Ei (is:=[0,1,2,4,5,6,7,8,9,10,12]) rfl c hc)), ?_⟩
   refine Dt [1,2,4,5,7,10,46,47,48,74,75,76,81,83,85,89] [(1,pt z),(Bc z),(BU n2),(Bf n2),(Du n25),(Fv b50),(Df c b27 o28),(CS c),(48,Ac k),(Jt c k b82 o83 cp40),(F6 c k),(76,Ac j),(81,.slice aD ((EJ c k j).length) cD),(83,i6 y89.partition),(85,i6 y89.port),(89,i6 (GR c k j))] ?_
   refine D6 [(10,o0)] [1,2,4,5,7,10,46,47,48,74,75,76,81,90] [] (DC 11 4) [(1,pt z),(Bc z),(BU n2),(Bf n2),(Du n25),(Fv b50),(Df c b27 o28),(CS c),(48,Ac k),(Jt c k b82 o83 cp40),(F6 c k),(76,Ac j),(81,.slice aD ((EJ c k j).length) cD),(90,.agg #[i6 y89.partition,i6 y89.port,i6 (GR c k j)])] Af ?_
   refine Bv 11 ?_
   refine BC o0 [1,2,4,5,7,10,46,47,48,74,75,76,81,91] [] [(1,pt z),(Bc z),(BU n2),(Bf n2),(Du n25),(Fv b50),(Df c b27 o28),(CS c),(48,Ac k),(Jt c k b82 o83 cp40),(F6 c k),(76,Ac j),(81,.slice aD ((EJ c k j).length) cD),(91,.slice (some ⟨w91.heap.size,0,none⟩) 1 1)] ⟨w,w91.heap.size+1,[(Ak w),(BZ c z),(Ce z),(Ob n2 c k j y34),(Em n2 c aP i cP csG aC cC),(Dx c aP i cP z),(Dn csG z),(Dq csG aC cC z),(Ea y34 n25),(mid (n25+1) w36),(Ir c k y48 aD cD j b50),(Ht c k aD cD j z),(LW y89 n80),(PV c k j y89 w91)]⟩ [0,1,2,4,5,6,7,8,9,10,12] Af (.inr rfl) ?_
   refine Bv 12 ?_
   refine PS z 11 13 (EJ c k j) [(⟨y89.partition,y89.port,GR c k j⟩:Bh)] Bh.cells 99 3 24 (.slice aD ((EJ c k j).length) cD) w91.heap.size 1 1 #[i6 y89.partition,i6 y89.port,i6 (GR c k j)] 99 (0,0) true (some 92) [0,1,2,4,5,6,7,8,9,10,12] (by simp only[List.length_cons,List.length_nil];omega) (show z≤w91.heap.size+1 by omega) (.inr ⟨rfl,rfl⟩) (fun ax96 cp97 n98 (hn99:w91.heap.size+1≤n98) => ?_)
   refine Dt [1,2,4,5,7,10,46,47,48,74,75,76,92] [(1,pt z),(Bc z),(BU n2),(Bf n2),(Du n25),(Fv b50),(Df c b27 o28),(CS c),(48,Ac k),(Jt c k b82 o83 cp40),(F6 c k),(76,Ac j),(92,.slice ax96 ((EJ c k j++[(⟨y89.partition,y89.port,GR c k j⟩:Bh)]).length) cp97)] ?_
   refine D6 [(13,o0)] [1,2,4,5,7,10,46,47,48,74,75,76,92,93] [] (DC 14 1) [(1,pt z),(Bc z),(BU n2),(Bf n2),(Du n25),(Fv b50),(Df c b27 o28),(CS c),(48,Ac k),(Jt c k b82 o83 cp40),(F6 c k),(76,Ac j),(92,.slice ax96 ((EJ c k j++[(⟨y89.partition,y89.port,GR c k j⟩:Bh)]).length) cp97),(93,.pointer (some ⟨b50,4,none⟩))] Af ?_
   refine Bv 14 ?_
   refine BC (a1 10) [1,2,4,5,7,10,46,47,48,74,75,76] [Qb b50] [(1,pt z),(Bc z),(BU n2),(Bf n2),(Du n25),(Fv b50),(Df c b27 o28),(CS c),(48,Ac k),(Jt c k b82 o83 cp40),(F6 c k),(76,Ac j)] ⟨w,n98,[(Ak w),(BZ c z),(Ce z),(Ob n2 c k j y34),(Em n2 c aP i cP csG aC cC),(Dx c aP i cP z),(Dn csG z),(Dq csG aC cC z),(Ea y34 n25),(mid (n25+1) w36),(Rq c k y48 j b50 ax96 y89 cp97),(PO c k j ax96 y89 cp97 z),(LW y89 n80),(PV c k j y89 w91)]⟩ [] ⟨rfl,Af⟩ (.inl rfl) ?_
   refine DV 15 [0,1,2,3,4,5,6,7,8,9,10,11,12,13] [(Ak w),(BZ c z),(Ce z),(Ob n2 c k j y34),(Em n2 c aP i cP csG aC cC),(Dx c aP i cP z),(Dn csG z),(Dq csG aC cC z),(Ea y34 n25),(mid (n25+1) w36),(Rq c k y48 j b50 ax96 y89 cp97),(PO c k j ax96 y89 cp97 z),(LW y89 n80),(PV c k j y89 w91)] rfl rfl ?_
   refine Dl ?_
   refine Oi 4 0 [] [[(ov (i6 ((j+1:Nat):Int))),o0]] [Wr ((j:Int)+1) (((j+1:Nat):Int))] [(1,pt z),(Bc z),(BU n2),(Bf n2),(Du n25),(Fv b50),(Df c b27 o28),(CS c),(48,Ac k),(Jt c k b82 o83 cp40),(F6 c k),(76,i6 ((j+1:Nat):Int))] rfl ⟨CB,Af⟩ ?_
   refine BX [0,1,2,3,4,5,6,7,8,9,10,11] [(Ak w),(BZ c z),(Ce z),(Ob n2 c k j y34),(Em n2 c aP i cP csG aC cC),(Dx c aP i cP z),(Dn csG z),(Dq csG aC cC z),(Ea y34 n25),(mid (n25+1) w36),(Rq c k y48 j b50 ax96 y89 cp97),(PO c k j ax96 y89 cp97 z)] rfl rfl ?_
   refine FT [1,2,4,5,7,10,46,47,48,74,75,76] [(1,pt z),(Bc z),(BU n2),(Bf n2),(Du n25),(Fv b50),(Df c b27 o28),(CS c),(48,Ac k),(Iy c k cp40 ax39),(F6 c k),(76,i6 ((j+1:Nat):Int))] (by(try dsimp only[Rq,Ir,Em,FY,PV,Ce,GY,Ob,Ho,EL,Ea,LW,BZ,PO,Dx,Ht,Dq,Dn,Jt,Df,F6,Hq,BU,Iy,Eg,EY,CS,Bf,Bc,Fv,Du,Ia,Hm]);simp only[ha84];rfl) ?_
   refine Cf (fun a w' hs=>⟨(BV c (k:Int) false).length - (j+1),by omega,n98,(j+1),ax96,cp97,rfl,by omega,by omega,by(try dsimp only[Rq,Ir,Em,FY,PV,Ce,GY,Ob,Ho,EL,Ea,LW,BZ,PO,Dx,Ht,Dq,Dn,Jt,Df,F6,Hq,BU,Iy,Eg,EY,CS,Bf,Bc,Fv,Du,Ia,Hm]at hs ⊢);rw[Yu,Uu,←hy34,show Ox c k j=⟨y89.partition,y89.port,GR c k j⟩from by rw[hy89];rfl];exact hs⟩)
  refine q_c 11 4 [0] [[oF],[o0,(a1 4),(an 5 10),o0]] [BF ((j:Int)<(((BV c (k:Int) false).length:Nat):Int)),Qb (n2+1),Qb b50,Qb b50,Qb b50,Qb b50,Qb b50] [(1,pt z),(Bc z),(BU n2),(Bf n2),(Df c b27 o28),(CS c),(48,Ac k),(96,.slice aC csG.length cC),(98,.slice (some ⟨n80,0,none⟩) 1 1)] ⟨w,n80+1,[(Ak w),(BZ c z),(Ce z),(Ho n2 c k j),(Em n2 c aP i cP csG aC cC),(Dx c aP i cP z),(Dn csG z),(Dq csG aC cC z),(Ea y34 n25),(mid (n25+1) w36),(Ir c k y48 aD cD j b50),(Ht c k aD cD j z),(UD c k y48 aD cD j n80)]⟩ rfl ⟨bf,rfl,rfl,rfl,rfl,rfl,rfl,Af⟩ ?_
  refine MO z 7 12 csG [(⟨CE c k,(CE c k)+2,y48.partition,y48.port,(⟨aD,cD,EJ c k j⟩:Sl Bh)⟩:Au)] Au.cells 91 5 56 (.slice aC csG.length cC) n80 1 1 #[i6 (CE c k),i6 ((CE c k)+2),i6 y48.partition,i6 y48.port,.slice aD ((EJ c k j).length) cD] 91 (0,0) true (some 99) (by simp only[List.length_cons,List.length_nil];omega) (show z≤n80+1 by omega) (fun ax100 cp101 n102 (hn103:n80+1≤n102) => ?_)
  refine Gi 5 0 [] [[o0,(a1 4)],[(ov (i6 ((k+1:Nat):Int))),o0]] [Qb (n2+1),Wr ((k:Int)+1) (((k+1:Nat):Int))] [(1,pt z),(Bc z),(BU n2),(Bf n2),(Df c b27 o28),(CS c),(48,i6 ((k+1:Nat):Int))] ⟨w,n102,[(Ak w),(BZ c z),(Ce z),(Ho n2 c k j),(Us n2 c aP i cP ax100 csG k y48 aD cD j cp101),(Dx c aP i cP z),(Dn csG z),(SN c ax100 csG k y48 aD cD j cp101 z),(Ea y34 n25),(mid (n25+1) w36),(Ir c k y48 aD cD j b50),(Ht c k aD cD j z),(UD c k y48 aD cD j n80)]⟩ rfl ⟨rfl,CB,Af⟩ ?_
  refine e_fam 6 11 [0,1,2,3,4,5,7,8,9,10,12] [(Ak w),(BZ c z),(Ce z),(Ho n2 c k j),(Us n2 c aP i cP ax100 csG k y48 aD cD j cp101),(Dx c aP i cP z),(SN c ax100 csG k y48 aD cD j cp101 z),(Ea y34 n25),(mid (n25+1) w36),(Ir c k y48 aD cD j b50),(UD c k y48 aD cD j n80)] ?_
  refine BX [0,1,2,3,4,5,11,6] [(Ak w),(BZ c z),(Ce z),(Ho n2 c k j),(Us n2 c aP i cP ax100 csG k y48 aD cD j cp101),(Dx c aP i cP z),(Hu z 99 3 Bh.cells (csG.map Au.Dw++[⟨aD,cD,EJ c k j⟩])),(SN c ax100 csG k y48 aD cD j cp101 z)] rfl rfl ?_
  refine FT [1,2,4,5,46,47,48] [(1,pt z),(Bc z),(BU n2),(Bf n2),(Hq c),(CS c),(48,i6 ((k+1:Nat):Int))] (by(try dsimp only[Us,Rq,Ir,UD,Em,FY,PV,Ce,GY,Ob,Ho,EL,Ea,LW,BZ,SN,PO,Dx,Ht,Dq,Dn,Jt,Df,F6,Hq,BU,Iy,Eg,EY,CS,Bf,Bc,Fv,Du,Ia,Hm]);simp only[ha29];rfl) ?_
  refine Cf (fun a w' hs=>⟨c.Ah.xs.length - (k+1),by omega,n102,(k+1),(csG++[(⟨CE c k,(CE c k)+2,y48.partition,y48.port,(⟨aD,cD,EJ c k j⟩:Sl Bh)⟩:Au)]),ax100,cp101,rfl,by omega,by omega,by rw[List.length_append,hcl];rfl,Zah hcl hcs (a:=aD) (cp:=cD) (by unfold IR;rw[←hy48,show Jk c k=j from by unfold Jk;omega]),by(try dsimp only[Us,Rq,Ir,UD,Em,FY,PV,Ce,GY,Ob,Ho,EL,Ea,LW,BZ,SN,PO,Dx,Ht,Dq,Dn,Jt,Df,F6,Hq,BU,Iy,Eg,EY,CS,Bf,Bc,Fv,Du,Ia,Hm]at hs ⊢);rw[List.map_append,Zc,show Jk c k=j from by unfold Jk;omega];exact hs⟩)
 refine Az 12 1 [0] [[oF],[o0]] [BF ((k:Int)<(c.Ah.xs.length:Int))] [(1,pt z),(Bc z),(Bf n2),(102,.func (.func 77) #[] #[pt n2])] rfl ⟨bf,Af⟩ ?_
 refine l_call [] [] 77 #[i6 0,pt n2] (some 103) Af ?_
 intro w104 hw104
 refine Cb (args:=[i6 0,pt n2]) 10 ⟨w,n25,(Ia n2 c aP i cP csG k aC cC z w)⟩ Tryd.func77 rfl (by kernel_rfl) (by kernel_rfl) hw104 ?_
 refine Az 17 0 [] [[o0],[(a1 3),o0],[(a1 3),o0,(ov (i6 (CE c k))),(a1 3)],[o0,o0]] [Qb n2,Qb n2,Wr ((CE c k:Int)+0) (CE c k),Qb n2] [(3,i6 (CE c k))] rfl ⟨rfl,rfl,CB,rfl,Af⟩ ?_
 refine AO [] [] (i6 (CE c k)) Af ?_
 intro w105 hw105
 refine⟨_,_,rfl,hw105, ?_⟩
 refine Cc 0 3 [] [[(ov (i6 ((CE c k)+16))),(ov (i6 (((CE c k)+16) - 1))),(ov (i6 ((((CE c k)+16) - 1) / 16)))]] [Wr ((CE c k:Int)+16) ((CE c k)+16),Wr (((CE c k)+16:Int) - 1) (((CE c k)+16) - 1),Wr (Int.tdiv (((CE c k)+16) - 1) 16) ((((CE c k)+16) - 1) / 16)] [(1,pt z),(Bc z),(Bf n2),(106,i6 ((((CE c k)+16) - 1) / 16))] rfl ⟨CB,CB,congrArg (Value.int .i64) (Nc (by omega) (by omega) (by omega)),Af⟩ ?_
 refine l_call [] [] 38 #[i6 ((((CE c k)+16) - 1) / 16)] (some 107) Af ?_
 intro w106 hw106
 refine Cb (args:=[i6 ((((CE c k)+16) - 1) / 16)]) 4 ⟨w,n25,(Ia n2 c aP i cP csG k aC cC z w)⟩ Tryd.func38 rfl (by kernel_rfl) (by kernel_rfl) hw106 ?_
 refine q_c 9 0 [] [[o0,o0],[o0,o0]] [] [(2,.func (.func 77) #[] #[pt n25])] ⟨w,n25+1,[(Ak w),(BZ c z),(Ce z),(EL n2 c k),(Em n2 c aP i cP csG aC cC),(Dx c aP i cP z),(Dn csG z),(Dq csG aC cC z),(bk n25 #[i6 ((((CE c k)+16) - 1) / 16)] 3)]⟩ rfl Af ?_
 refine AO [] [] (.func (.func 77) #[] #[pt n25]) Af ?_
 intro w107 hw107
 refine⟨_,_,rfl,hw107, ?_⟩
 refine Cc 8 0 [] [[o0],[o0,(a1 1),o0,o0]] [Qb z] [(Bc z),(Bf n2),(Fb n25),(La c),(Fe c),(111,i6 0)] rfl ⟨rfl,Af⟩ ?_
 refine g_fam0 z 3 1 (fun x:Int=>[i6 x]) ?_
 refine DY (fun m a w'=>∃ (n109:Nat) (p:Nat) (psG:List Ap) (aP2:Option Addr) (cP2:Nat),m=c.Aa.xs.length - p∧n25+1≤n109∧(p≤c.Aa.xs.length)∧(psG.length=c.Aa.xs.length)∧(∀ q,p≤q→q<c.Aa.xs.length→gd psG q=Og c q)∧(∀ q,q<p→∃ a cp,gd psG q=FH c q ⟨a,cp,EU c q (Iu (gd c.Aa.xs q))⟩)∧St 148 [(Bc z),(Bf n2),(Fb n25),(La c),(Fe c),(111,Ac p)] [] ⟨w,n109,(Ns n2 c csG k psG cP2 aC cC aP2 z n25 p w)⟩ a w') (c.Aa.xs.length - 0) ?_ ?_
 ·intro a w' hs;exact⟨(n25+1),0,(Hf c i),aP,cP,rfl,Nat.le_refl _,Nat.zero_le _,(by rw[Uk];omega),(fun q _ hq=>YG (show q<i by omega)),fun q hq=>absurd hq (Nat.not_lt_zero q),by(try dsimp only[Ir,Em,FY,Oe,Ce,GY,Ho,Me,EL,Ea,BZ,H6,Dx,Ht,Nr,Dq,Dn,Df,La,F6,Hq,Fb,BU,Iy,Eg,Fe,EY,CS,Bf,Bc,Fv,Du,Ns,Ia,Hm]at hs ⊢);rw[show DD c 0=(((CE c k)+16) - 1) / 16 from by rw[tAt_zero,show k=c.Ah.xs.length by omega]];exact hs⟩
 rintro m a w' ⟨n109,p,psG,aP2,cP2,rfl,hn108,hkp,hpl,hp1,hp2,hs⟩
 refine(?_:G Tryd.prog 148 [(Bc z),(Bf n2),(Fb n25),(La c),(Fe c),(111,Ac p)] [] ⟨w,n109,(Ns n2 c csG k psG cP2 aC cC aP2 z n25 p w)⟩ _ _ _) a w' hs
 clear hs a w'
 have htb:=Ql hfine p (by omega)
 refine DW ?_
 by_cases h110:(p:Int)<(c.Aa.xs.length:Int)
 ·refine Az 10 0 [1] [[oT]] [BT ((p:Int)<(c.Aa.xs.length:Int))] [(Bc z),(Bf n2),(Fb n25),(La c),(Fe c),(111,Ac p),(112,.bool true)] rfl ⟨bt,Af⟩ ?_
  obtain⟨b111,o112,ha113,hF115,hc114⟩:=(hc.Aa).1.all (show 0<c.Aa.xs.length by omega)
  replace ha113:c.Aa.a=some ⟨b111,o112,none⟩:=ha113
  refine Ku [(Bc z),(Bf n2),(Fb n25),(FV c b111 o112),(Fe c),(111,Ac p),(112,.bool true)] (by(try dsimp only[Ir,Em,FY,Oe,Ce,GY,Ho,Me,EL,Ea,BZ,H6,Dx,Ht,Nr,Dq,Dn,FV,Df,La,F6,Hq,Fb,BU,Iy,Eg,Fe,EY,CS,Bf,Bc,Fv,Du,Ns,Ia,Hm]);simp only[ha113]) ?_
  have hc116:=hc114 p (show p<c.Aa.xs.length by omega)
  have he117:=(hc.Aa).2 p (show p<c.Aa.xs.length by omega)
  obtain⟨y118,hy118⟩:∃ y_,y_=gd c.Aa.xs p:=⟨_,rfl⟩
  rw[←hy118]at he117 hc116
  have htn:=Rx y118
  refine q_c 4 0 [] [[o0,(oi p),(ol 0 (Aq.arr y118)),o0,o0,(an 8 10)]] [DJ p,p<c.Aa.xs.length,Di,He w b111 (o112+p*8) (Aq.arr y118),Qb n109,Qb n109,Qb n109,Qb n109,Qb n109,Qb n109,Qb n109,Qb n109] [(Bc z),(Bf n2),(Fb n25),(FV c b111 o112),(Fe c),(111,Ac p),(15,pt n109),(14,Ac p)] ⟨w,n109+1,[(Ak w),(BZ c z),(Ce z),(EL n2 c k),(Oe n2 c csG psG cP2 aC cC aP2),(Nr psG cP2 aP2 z),(Dn csG z),(Dq csG aC cC z),(Me c n25 p),(H6 psG z p),(Jg n109 y118)]⟩ rfl ⟨rfl,(by omega),rfl,EH hc116,rfl,rfl,rfl,rfl,rfl,rfl,rfl,rfl,Af⟩ ?_
  refine JS (base:=z) (e:=70) (sz:=5) (cells:=Ap.cells) (a:=aP2) (n:=psG.length) (cap:=cP2) (xs:=psG) 5 (by omega) (fun b119 hg120 hb121 => ?_)
  subst hg120
  refine Eo 7 [0,1,2,3,4,5,6,7,9,10] [(Ak w),(BZ c z),(Ce z),(EL n2 c k),(JQ n2 c csG b119 psG cP2 aC cC),(Ci z 70 5 Ap.cells (.slice (some ⟨b119,0,none⟩) psG.length cP2) psG),(Dn csG z),(Dq csG aC cC z),(H6 psG z p),(Jg n109 y118)] rfl rfl ?_
  refine D6 [(0,o0),(1,(a1 4)),(2,o0),(3,o0)] [2,5,13,109,110,111,15,14,117,118,119] [Qb (n2+1)] (DC 4 4) [(Bc z),(Bf n2),(Fb n25),(FV c b111 o112),(Fe c),(111,Ac p),(15,pt n109),(14,Ac p),(117,.slice (some ⟨b119,0,none⟩) psG.length cP2),(118,Ac p),(119,.func (.func 77) #[] #[pt n25])] ⟨rfl,Af⟩ ?_
  refine Bv 4 ?_
  refine Ii [] [] 77 #[i6 1,pt n25] (some 120) (by as_aux_lemma=>kernel_rfl) rfl rfl Af ?_
  intro w122 hw122
  refine Cb (args:=[i6 1,pt n25]) 10 ⟨w,n109+1,[(Ak w),(BZ c z),(Ce z),(EL n2 c k),(JQ n2 c csG b119 psG cP2 aC cC),(Ci z 70 5 Ap.cells (.slice (some ⟨b119,0,none⟩) psG.length cP2) psG),(Dn csG z),(Dq csG aC cC z),(Me c n25 p),(H6 psG z p),(Jg n109 y118)]⟩ Tryd.func77 rfl (by kernel_rfl) (by kernel_rfl) hw122 ?_
  refine q_c 17 0 [] [[o0],[(a1 8),o0],[(a1 8),o0,(ov (i6 ((DD c p)+1))),(a1 8)],[o0,o0]] [Qb n25,Qb n25,Wr ((DD c p:Int)+1) ((DD c p)+1),Qb n25] [(3,i6 (DD c p))] ⟨w,n109+1,[(Ak w),(BZ c z),(Ce z),(EL n2 c k),(JQ n2 c csG b119 psG cP2 aC cC),(Ci z 70 5 Ap.cells (.slice (some ⟨b119,0,none⟩) psG.length cP2) psG),(Dn csG z),(Dq csG aC cC z),(bk n25 #[i6 ((DD c p)+1)] 3),(H6 psG z p),(Jg n109 y118)]⟩ rfl ⟨rfl,rfl,CB,rfl,Af⟩ ?_
  refine AO [] [] (i6 (DD c p)) Af ?_
  intro w123 hw123
  have hs124:=hw123
  refine⟨_,_,rfl,hs124,.inr (fun c hc=>hs124.all c (by first | exact hc | exact Ei (is:=[0,1,2,3,4,5,6,7,9,10]) rfl c hc)), ?_⟩
  refine Dt [2,5,13,109,110,111,15,14,117,118,120] [(Bc z),(Bf n2),(Fb n25),(FV c b111 o112),(Fe c),(111,Ac p),(15,pt n109),(14,Ac p),(117,.slice (some ⟨b119,0,none⟩) psG.length cP2),(118,Ac p),(120,i6 (DD c p))] ?_
  refine D6 [(5,(oi p)),(6,o0)] [2,5,13,109,110,111,15,14,120,122] [DJ p,p<psG.length,Di] (DC 7 1) [(Bc z),(Bf n2),(Fb n25),(FV c b111 o112),(Fe c),(111,Ac p),(15,pt n109),(14,Ac p),(120,i6 (DD c p)),(122,.pointer (some ⟨b119,0+G5 5 p+3,none⟩))] ⟨rfl,(by omega),rfl,Af⟩ ?_
  refine Bv 7 ?_
  refine RZ 5 p 3 psG (⟨CG c p,CG c p+2,CG c p+2+17,DD c p,(⟨none,0,[]⟩:Sl Int)⟩:Ap) Ap.cells z 70 5 b119 psG.length cP2 (i6 (DD c p)) none [] (by first | omega | (rw[List.length_set];omega)) (by first | (rw[hp1 p (Nat.le_refl _) (by omega)];rfl) | (rw[LU (by omega)];rfl)) (.inl rfl) ?_
  refine Dt [2,5,13,109,110,111,15,14] [(Bc z),(Bf n2),(Fb n25),(FV c b111 o112),(Fe c),(111,Ac p),(15,pt n109),(14,Ac p)] ?_
  refine DV 8 [0,1,2,3,4,5,6,7,8,9,10] [(Ak w),(BZ c z),(Ce z),(EL n2 c k),(JQ n2 c csG b119 psG cP2 aC cC),(Ci z 70 5 Ap.cells (.slice (some ⟨b119,0,none⟩) psG.length cP2) (psG.set p (⟨CG c p,CG c p+2,CG c p+2+17,DD c p,(⟨none,0,[]⟩:Sl Int)⟩:Ap))),(Dn csG z),(Dq csG aC cC z),(bk n25 #[i6 ((DD c p)+1)] 3),(H6 psG z p),(Jg n109 y118)] rfl rfl ?_
  refine Dl ?_
  refine Oi 3 1 [] [[(an 8 10)]] [Qb n109,Qb n109,Qb n109,Qb n109,Qb n109,Qb n109,Qb n109,Qb n109] [(Bc z),(Bf n2),(Fb n25),(FV c b111 o112),(Fe c),(111,Ac p),(14,Ac p),(123,.agg (Aq.arr y118))] rfl ⟨rfl,rfl,rfl,rfl,rfl,rfl,rfl,rfl,Af⟩ ?_
  refine BI 42 #[.agg (Aq.arr y118)] (some 124) (i6 ((Iu y118:Nat):Int)) (fun w125 hw125=>Y2 w125 y118 (he117.ext (hw125.ext rfl) (fun _ h=>h)) (XO (by rw[hy118];exact hfine.parts p (by omega)))) (fun n126 (hn127:n109+1≤n126) => ?_)
  refine Cc 3 0 [] [[o0]] [] [(Bc z),(Bf n2),(Fb n25),(FV c b111 o112),(Fe c),(111,Ac p),(14,Ac p),(IG y118),(125,i6 0)] rfl Af ?_
  refine Qr z 3 1 (fun x:Int=>[i6 x]) ?_
  refine Ee [2,5,13,14,109,110,111,124,125] [(Bc z),(Bf n2),(Fb n25),(14,Ac p),(FV c b111 o112),(Fe c),(111,Ac p),(IG y118),(125,i6 0)] ?_
  refine DY (fun m a w'=>∃ (n129:Nat) (t:Nat) (aT:Option Addr) (cT:Nat),m=(Iu y118) - t∧n126≤n129∧(t≤(Iu y118))∧St 148 [(Bc z),(Bf n2),(Fb n25),(14,Ac p),(FV c b111 o112),(Fe c),(111,Ac p),(IG y118),(125,Ac t)] [] ⟨w,n129,(OT n2 c csG k b119 psG cP2 aC cC z n25 p t n109 y118 aT cT w)⟩ a w') ((Iu y118) - 0) ?_ ?_
  ·intro a w' hs;exact⟨n126,0,none,0,rfl,Nat.le_refl _,Nat.zero_le _,by(try dsimp only[Ir,JQ,Em,FY,Oe,Ce,GY,OV,Ho,Jg,Me,EL,Ea,BZ,KR,OQ,H6,Dx,Ht,Nr,Dq,Dn,FV,Df,La,F6,Hq,Fb,BU,Iy,Eg,Fe,EY,CS,IG,Bf,Bc,Fv,Du,OT,Ns,Ia,Hm]at hs ⊢);rw[show DD c p+1+((0:Nat):Int)=DD c p+1 from by omega];exact hs⟩
  rintro m a w' ⟨n129,t,aT,cT,rfl,hn128,hkt,hs⟩
  refine(?_:G Tryd.prog 148 [(Bc z),(Bf n2),(Fb n25),(14,Ac p),(FV c b111 o112),(Fe c),(111,Ac p),(IG y118),(125,Ac t)] [] ⟨w,n129,(OT n2 c csG k b119 psG cP2 aC cC z n25 p t n109 y118 aT cT w)⟩ _ _ _) a w' hs
  clear hs a w'
  have htl:(EU c p t).length=t:=TU
  refine DW ?_
  by_cases h130:(t:Int)<((Iu y118:Nat):Int)
  ·refine Az 9 0 [1] [[oT]] [BT ((t:Int)<((Iu y118:Nat):Int))] [(Bc z),(Bf n2),(Fb n25),(14,Ac p),(FV c b111 o112),(Fe c),(111,Ac p),(IG y118),(125,Ac t),(126,.bool true)] rfl ⟨bt,Af⟩ ?_
   refine Eo 15 [0,1,2,3,4,5,6,7,9,10] [(Ak w),(BZ c z),(Ce z),(EL n2 c k),(JQ n2 c csG b119 psG cP2 aC cC),(KR c b119 psG cP2 z p t aT cT),(Dn csG z),(Dq csG aC cC z),(H6 psG z p),(Jg n109 y118)] rfl rfl ?_
   refine D6 [(0,o0),(1,(a1 4)),(2,o0),(3,o0),(4,(a1 4)),(5,o0),(6,(oi p)),(7,o0),(8,(oa [.via 5 (.slice aT ((EU c p t).length) cT)])),(9,o0)] [2,5,13,14,109,110,111,124,125,128,129,135,136] [Qb (n2+1),Qb (n2+1),DJ p,p<psG.length,Di,∀ w',Ch.holds (KR c b119 psG cP2 z p t aT cT) w'→w'.cell? ⟨b119,0+G5 5 p+4,none⟩=some (.slice aT ((EU c p t).length) cT)] (DC 10 6) [(Bc z),(Bf n2),(Fb n25),(14,Ac p),(FV c b111 o112),(Fe c),(111,Ac p),(IG y118),(125,Ac t),(128,.slice (some ⟨b119,0,none⟩) psG.length cP2),(129,Ac p),(135,.slice aT ((EU c p t).length) cT),(136,.func (.func 77) #[] #[pt n25])] ⟨rfl,rfl,rfl,(by omega),rfl,FI (sz:=5) (j:=p) (k:=4) (fun _=>rfl) (by first | omega | (rw[List.length_set];omega)) (by rw[LU (by omega)];rfl),Af⟩ ?_
   refine Bv 10 ?_
   refine Ii [] [] 77 #[i6 1,pt n25] (some 137) (by as_aux_lemma=>kernel_rfl) rfl rfl Af ?_
   intro w131 hw131
   refine Cb (args:=[i6 1,pt n25]) 10 ⟨w,n129,(OT n2 c csG k b119 psG cP2 aC cC z n25 p t n109 y118 aT cT w)⟩ Tryd.func77 rfl (by kernel_rfl) (by kernel_rfl) hw131 ?_
   refine q_c 17 0 [] [[o0],[(a1 8),o0],[(a1 8),o0,(ov (i6 ((DD c p+1+(t:Int))+1))),(a1 8)],[o0,o0]] [Qb n25,Qb n25,Wr ((DD c p+1+(t:Int):Int)+1) ((DD c p+1+(t:Int))+1),Qb n25] [(3,i6 (DD c p+1+(t:Int)))] ⟨w,n129,[(Ak w),(BZ c z),(Ce z),(EL n2 c k),(JQ n2 c csG b119 psG cP2 aC cC),(KR c b119 psG cP2 z p t aT cT),(Dn csG z),(Dq csG aC cC z),(PY c n25 p t),(H6 psG z p),(Jg n109 y118),(OQ c z p t aT cT)]⟩ rfl ⟨rfl,rfl,CB,rfl,Af⟩ ?_
   refine AO [] [] (i6 (DD c p+1+(t:Int))) Af ?_
   intro w132 hw132
   have hs133:=hw132
   refine⟨_,_,rfl,hs133,.inr (fun c hc=>hs133.all c (by first | exact hc | exact Ei (is:=[0,1,2,3,4,5,6,7,9,10]) rfl c hc)), ?_⟩
   refine Dt [2,5,13,14,109,110,111,124,125,128,129,135,137] [(Bc z),(Bf n2),(Fb n25),(14,Ac p),(FV c b111 o112),(Fe c),(111,Ac p),(IG y118),(125,Ac t),(128,.slice (some ⟨b119,0,none⟩) psG.length cP2),(129,Ac p),(135,.slice aT ((EU c p t).length) cT),(137,i6 (DD c p+1+(t:Int)))] ?_
   refine Bv 11 ?_
   refine BC o0 [2,5,13,14,109,110,111,124,125,128,129,135,138] [] [(Bc z),(Bf n2),(Fb n25),(14,Ac p),(FV c b111 o112),(Fe c),(111,Ac p),(IG y118),(125,Ac t),(128,.slice (some ⟨b119,0,none⟩) psG.length cP2),(129,Ac p),(135,.slice aT ((EU c p t).length) cT),(138,.slice (some ⟨n129,0,none⟩) 1 1)] ⟨w,n129+1,[(Ak w),(BZ c z),(Ce z),(EL n2 c k),(JQ n2 c csG b119 psG cP2 aC cC),(KR c b119 psG cP2 z p t aT cT),(Dn csG z),(Dq csG aC cC z),(PY c n25 p t),(H6 psG z p),(Jg n109 y118),(OQ c z p t aT cT),(bk n129 #[i6 (DD c p+1+(t:Int))] 3)]⟩ [0,1,2,3,4,5,6,7,9,10] Af (.inr rfl) ?_
   refine Bv 12 ?_
   refine PS z 11 12 (EU c p t) [DD c p+1+(t:Int)] (fun x:Int=>[i6 x]) 3 1 8 (.slice aT ((EU c p t).length) cT) n129 1 1 #[i6 (DD c p+1+(t:Int))] 3 (0,0) true (some 139) [0,1,2,3,4,5,6,7,9,10] (by simp only[List.length_cons,List.length_nil];omega) (show z≤n129+1 by omega) (.inr ⟨rfl,rfl⟩) (fun ax134 cp135 n136 (hn137:n129+1≤n136) => ?_)
   refine Dt [2,5,13,14,109,110,111,124,125,128,129,139] [(Bc z),(Bf n2),(Fb n25),(14,Ac p),(FV c b111 o112),(Fe c),(111,Ac p),(IG y118),(125,Ac t),(128,.slice (some ⟨b119,0,none⟩) psG.length cP2),(129,Ac p),(139,.slice ax134 (((EU c p t)++[DD c p+1+(t:Int)]).length) cp135)] ?_
   refine D6 [(13,(oi p)),(14,o0)] [2,5,13,14,109,110,111,124,125,139,141] [DJ p,p<psG.length,Di] (DC 15 1) [(Bc z),(Bf n2),(Fb n25),(14,Ac p),(FV c b111 o112),(Fe c),(111,Ac p),(IG y118),(125,Ac t),(139,.slice ax134 (((EU c p t)++[DD c p+1+(t:Int)]).length) cp135),(141,.pointer (some ⟨b119,0+G5 5 p+4,none⟩))] ⟨rfl,(by omega),rfl,Af⟩ ?_
   refine Bv 15 ?_
   refine RZ 5 p 4 (psG.set p (⟨CG c p,CG c p+2,CG c p+2+17,DD c p,(⟨aT,cT,EU c p t⟩:Sl Int)⟩:Ap)) (⟨CG c p,CG c p+2,CG c p+2+17,DD c p,(⟨ax134,cp135,((EU c p t)++[DD c p+1+(t:Int)])⟩:Sl Int)⟩:Ap) Ap.cells z 70 5 b119 psG.length cP2 (.slice ax134 (((EU c p t)++[DD c p+1+(t:Int)]).length) cp135) none [] (by first | omega | (rw[List.length_set];omega)) (by first | (rw[hp1 p (Nat.le_refl _) (by omega)];rfl) | (rw[LU (by omega)];rfl)) (.inl rfl) ?_
   refine Dt [2,5,13,14,109,110,111,124,125] [(Bc z),(Bf n2),(Fb n25),(14,Ac p),(FV c b111 o112),(Fe c),(111,Ac p),(IG y118),(125,Ac t)] ?_
   refine DV 16 [0,1,2,3,4,5,6,7,8,9,10,11,12] [(Ak w),(BZ c z),(Ce z),(EL n2 c k),(JQ n2 c csG b119 psG cP2 aC cC),(TG c b119 psG cP2 z p t aT cT ax134 cp135),(Dn csG z),(Dq csG aC cC z),(PY c n25 p t),(H6 psG z p),(Jg n109 y118),(Ci z 3 1 (fun x:Int=>[i6 x]) (.slice ax134 (((EU c p t)++[DD c p+1+(t:Int)]).length) cp135) ((EU c p t)++[DD c p+1+(t:Int)])),(bk n129 #[i6 (DD c p+1+(t:Int))] 3)] rfl rfl ?_
   refine Dl ?_
   refine Oi 4 0 [] [[(ov (i6 ((t+1:Nat):Int))),o0]] [Wr ((t:Int)+1) (((t+1:Nat):Int))] [(Bc z),(Bf n2),(Fb n25),(14,Ac p),(FV c b111 o112),(Fe c),(111,Ac p),(IG y118),(125,i6 ((t+1:Nat):Int))] rfl ⟨CB,Af⟩ ?_
   refine BX [0,1,2,3,4,5,6,7,8,9,10,11] [(Ak w),(BZ c z),(Ce z),(EL n2 c k),(JQ n2 c csG b119 psG cP2 aC cC),(TG c b119 psG cP2 z p t aT cT ax134 cp135),(Dn csG z),(Dq csG aC cC z),(PY c n25 p t),(H6 psG z p),(Jg n109 y118),(Ci z 3 1 (fun x:Int=>[i6 x]) (.slice ax134 (((EU c p t)++[DD c p+1+(t:Int)]).length) cp135) ((EU c p t)++[DD c p+1+(t:Int)]))] rfl rfl ?_
   refine BR [2,5,13,14,109,110,111,124,125] [(Bc z),(Bf n2),(Fb n25),(14,Ac p),(FV c b111 o112),(Fe c),(111,Ac p),(IG y118),(125,i6 ((t+1:Nat):Int))] ?_
   refine Cf (fun a w' hs=>⟨(Iu y118) - (t+1),by omega,n136,(t+1),ax134,cp135,rfl,by omega,by omega,by(try dsimp only[Ir,JQ,Em,FY,Oe,Ce,GY,PY,OV,Ho,Jg,Me,EL,Ea,BZ,TG,KR,OQ,H6,Dx,Ht,Nr,Dq,Dn,FV,Df,La,F6,Hq,Fb,BU,Iy,Eg,Fe,EY,CS,IG,Bf,Bc,Fv,Du,OT,Ns,Ia,Hm]at hs ⊢);simp only[List.set_set]at hs;rw[show DD c p+1+((t+1:Nat):Int)=DD c p+1+(t:Int)+1 from by omega,VE];exact hs⟩)
  refine Az 13 0 [0] [[oF],[(ov (i6 ((p+1:Nat):Int))),o0]] [BF ((t:Int)<((Iu y118:Nat):Int)),Wr ((p:Int)+1) (((p+1:Nat):Int))] [(Bc z),(Bf n2),(Fb n25),(FV c b111 o112),(Fe c),(111,i6 ((p+1:Nat):Int))] rfl ⟨bf,CB,Af⟩ ?_
  refine e_fam 9 11 [0,1,2,3,4,5,6,7,8,10] [(Ak w),(BZ c z),(Ce z),(EL n2 c k),(JQ n2 c csG b119 psG cP2 aC cC),(KR c b119 psG cP2 z p t aT cT),(Dn csG z),(Dq csG aC cC z),(OV c n25 p t),(Jg n109 y118)] ?_
  refine BX [0,1,2,3,4,5,6,7,8,10] [(Ak w),(BZ c z),(Ce z),(EL n2 c k),(JQ n2 c csG b119 psG cP2 aC cC),(KR c b119 psG cP2 z p t aT cT),(Dn csG z),(Dq csG aC cC z),(OV c n25 p t),(Hu z 3 1 (fun x:Int=>[i6 x]) ((psG.take p).map Ap.Tables++[⟨aT,cT,(EU c p t)⟩]))] rfl rfl ?_
  refine FT [2,5,13,109,110,111] [(Bc z),(Bf n2),(Fb n25),(La c),(Fe c),(111,i6 ((p+1:Nat):Int))] (by(try dsimp only[Ir,JQ,Em,FY,Oe,Ce,GY,PY,OV,Ho,Jg,Me,EL,Ea,BZ,TG,KR,OQ,H6,Dx,Ht,Nr,Dq,Dn,FV,Df,La,F6,Hq,Fb,BU,Iy,Eg,Fe,EY,CS,IG,Bf,Bc,Fv,Du,OT,Ns,Ia,Hm]);simp only[ha113];rfl) ?_
  refine Cf (fun a w' hs=>⟨c.Aa.xs.length - (p+1),by omega,n129,(p+1),(psG.set p (⟨CG c p,CG c p+2,CG c p+2+17,DD c p,(⟨aT,cT,EU c p t⟩:Sl Int)⟩:Ap)),(some ⟨b119,0,none⟩),cP2,rfl,by omega,by omega,by rw[List.length_set];exact hpl,fun q h1 h2=>by rw[Un (by omega) (by omega)];exact hp1 q (by omega) h2,fun q hq=>if e:q=p then(by rw[e];exact⟨aT,cT,by rw[LU (by omega),←hy118,show Iu y118=t by omega];rfl⟩)else(by rw[Un (fun e2=>e e2.symm) (by omega)];exact hp2 q (by omega)),by(try dsimp only[Ir,JQ,Em,FY,Oe,Ce,GY,PY,OV,Ho,Jg,Me,EL,Ea,BZ,TG,KR,OQ,H6,Dx,Ht,Nr,Dq,Dn,FV,Df,La,F6,Hq,Fb,BU,Iy,Eg,Fe,EY,CS,IG,Bf,Bc,Fv,Du,OT,Ns,Ia,Hm]at hs ⊢);rw[Yk (by omega),List.map_append,List.length_set,show DD c (p+1)=DD c p+1+(t:Int)from by rw[TQ,←hy118];omega];exact hs⟩)
 refine Az 12 1 [0] [[oF],[o0]] [BF ((p:Int)<(c.Aa.xs.length:Int))] [(Bc z),(Bf n2),(144,.func (.func 77) #[] #[pt n25])] rfl ⟨bf,Af⟩ ?_
 refine l_call [] [] 77 #[i6 0,pt n25] (some 145) Af ?_
 intro w138 hw138
 refine Cb (args:=[i6 0,pt n25]) 10 ⟨w,n109,(Ns n2 c csG k psG cP2 aC cC aP2 z n25 p w)⟩ Tryd.func77 rfl (by kernel_rfl) (by kernel_rfl) hw138 ?_
 refine Az 17 0 [] [[o0],[(a1 8),o0],[(a1 8),o0,(ov (i6 (DD c p))),(a1 8)],[o0,o0]] [Qb n25,Qb n25,Wr ((DD c p:Int)+0) (DD c p),Qb n25] [(3,i6 (DD c p))] rfl ⟨rfl,rfl,CB,rfl,Af⟩ ?_
 refine AO [] [] (i6 (DD c p)) Af ?_
 intro w139 hw139
 refine⟨_,_,rfl,hw139, ?_⟩
 refine Gi 7 0 [] [[o0,(a1 4)],[(an 4 4),(an 4 2),o0]] [Qb (n2+1),Qb (n2+1),Qb (n2+1),Qb (n2+1),Qb (n2+1),Qb (z+1),Qb (z+1),Qb (z+1),Qb (z+1)] [(Bc z),(3,i6 0)] ⟨w,n109,[(Ak w),(BZ c z),(bk (z+1) #[i6 (c.Kernel*16),.slice aP2 psG.length cP2,.slice aC csG.length cC,i6 (DD c p)] 60),(EL n2 c k),(bk (n2+1) #[i6 (c.Kernel*16),.slice aP2 psG.length cP2,.slice aC csG.length cC,i6 (DD c p)] 60),(Nr psG cP2 aP2 z),(Dn csG z),(Dq csG aC cC z),(Me c n25 p),(H6 psG z p)]⟩ rfl ⟨rfl,rfl,rfl,rfl,rfl,rfl,rfl,rfl,rfl,Af⟩ ?_
 refine AO [.at 2,.at 2,.at 2,.at 2] [Qb (z+1),Qb (z+1),Qb (z+1),Qb (z+1)] (.tuple #[.agg #[i6 (c.Kernel*16),.slice aP2 psG.length cP2,.slice aC csG.length cC,i6 (DD c p)],i6 0]) ⟨rfl,rfl,rfl,rfl,Af⟩ ?_
 intro w140 hw140
 have hL:Ud c ⟨c.Kernel*16,⟨aP2,cP2,psG⟩,⟨aC,cC,csG⟩,DD c p⟩:=⟨rfl,by rw[show p=c.Aa.xs.length by omega],hpl,fun q hq=>hp2 q (by omega),by simp only;omega,fun q hq=>hcs q (by omega)⟩
 have hO:Ur z w140 ⟨c.Kernel*16,⟨aP2,cP2,psG⟩,⟨aC,cC,csG⟩,DD c p⟩:=⟨w,by
  have h4:=hw140.pick [5,7,6,9] rfl rfl
  rw[hw140.size]
  unfold layS
  (try dsimp only[Ir,JQ,Em,FY,Oe,Ce,GY,OV,Ho,Jg,Me,EL,Ea,BZ,KR,OQ,H6,Dx,Ht,Nr,Dq,Dn,FV,Df,La,F6,Hq,Fb,BU,Iy,Eg,Fe,EY,CS,IG,Bf,Bc,Fv,Du,OT,Ns,Ia,Hm]at h4)
  rw[List.take_of_length_le (by omega)]at h4
  exact h4⟩
 exact⟨_,rfl,hL,hz ▸ ZaN hfine hL hO,hz ▸ hO,Bi hw140⟩
def Pm(c:Aj):Int:=if Eh c=true then DD c c.Aa.xs.length - c.Kernel else 0
def errOf(c:Aj):Int:=if Eh c=true then 0 else 150
theorem ZW(w:World)(c:Aj)(hc:Aj.ok Any w c):Calls Tryd.prog 100 #[.agg (Aj.arr c)] w fun e w'=>e = .returned (.tuple #[.int .i64 (Pm c),.int .i64 (errOf c)])∧CZ (fun _=>False) w w':=by
 obtain⟨z,hz⟩:∃ z,z=w.heap.size:=⟨_,rfl⟩
 refine Cb (args:=[.agg (Aj.arr c)]) 19 ⟨w,z,[(Ak w)]⟩ Tryd.func100 rfl (by kernel_rfl) (by kernel_rfl) (ES hz) ?_
 refine Ee [0] [(0,.agg (Aj.arr c))] ?_
 refine q_c 6 1 [] [[o0,o0,o0],[(an 7 1)]] [Qb z,Qb z,Qb z,Qb z,Qb z,Qb z,Qb z] [(1,pt z),(7,.agg (Aj.arr c))] ⟨w,z+1,[(Ak w),(bk z (Aj.arr c) 26)]⟩ rfl ⟨rfl,rfl,rfl,rfl,rfl,rfl,rfl,Af⟩ ?_
 refine l_call [] [] 18 #[.agg (Aj.arr c)] (some 8) Af ?_
 intro w1 hw1
 by_cases hok2:Eh c=true
 ·refine(ZaA w1 c (hc.ext (hw1.ext rfl) (fun _ h=>h)) hok2).mono ?_
  rintro e w3 ⟨lw3,rfl,hIw3,hLw3,hOw3,hkw3⟩
  have hfw3:=Vf hok2;have hknw3:=hfw3.kn;have hEw3:=hIw3.fin;have hEbw3:=Ql hfw3 _ (Nat.le_refl _);have hpnw3:=hfw3.pn
  rw[hw1.size]at hLw3 hOw3
  have hnw3:z+1≤w3.heap.size:=Ik hw1 hkw3
  refine⟨_,_,rfl,hw1.SC hkw3, ?_⟩
  refine Gi 15 0 [0] [[o0,o0,o0,o0,(an 4 3),o0],[o0,o0],[o0,(a1 3),o0,(a1 1),(ov (i6 (lw3.End - c.Kernel))),o0,o0]] [Qb w3.heap.size,Qb w3.heap.size,Qb w3.heap.size,Qb w3.heap.size,Qb w3.heap.size,Qb z,Wr ((lw3.End:Int) - c.Kernel) (lw3.End - c.Kernel)] [(2,i6 (lw3.End - c.Kernel)),(3,i6 0)] ⟨w,w3.heap.size+1,[(Ak w),(bk z (Aj.arr c) 26),(mid (z+1) w3),(.blk w3.heap.size (.cells (FK.arr lw3) 60 (0,0)) true)]⟩ rfl ⟨rfl,rfl,rfl,rfl,rfl,rfl,CB,Af⟩ ?_
  refine AO [] [] (.tuple #[i6 (lw3.End - c.Kernel),i6 0]) Af ?_
  intro w4 hw4
  refine⟨?_,Bi hw4⟩
  unfold Pm errOf;rw[if_pos hok2,if_pos hok2];rw[←hEw3]
 refine(of_no w1 c (hc.ext (hw1.ext rfl) (fun _ h=>h)) (Bool.eq_false_iff.2 hok2)).mono ?_
 rintro e w5 ⟨rfl,hkw5⟩
 have hnw5:z+1≤w5.heap.size:=Ik hw1 hkw5
 refine⟨_,_,rfl,hw1.keeps hkw5, ?_⟩
 refine Gi 13 0 [1] [[o0,o0,o0,o0,(an 4 2),o0],[o0,o0],[o0,o0,o0]] [Qb w5.heap.size,Qb w5.heap.size,Qb w5.heap.size,Qb w5.heap.size] [(2,i6 0),(3,i6 150)] ⟨w,w5.heap.size+1,[(Ak w),(bk z (Aj.arr c) 26),(.blk w5.heap.size (.cells #[i6 0,.slice none 0 0,.slice none 0 0,i6 0] 60 (0,0)) true)]⟩ rfl ⟨rfl,rfl,rfl,rfl,Af⟩ ?_
 refine AO [] [] (.tuple #[i6 0,i6 150]) Af ?_
 intro w6 hw6
 refine⟨?_,Bi hw6⟩
 unfold Pm errOf;rw[if_neg hok2,if_neg hok2]
end Go.Proofs.YtjdmhijaanmccaaDoor.Ly
namespace Go.Proofs.YtjdmhijaanmccaaDoor.Ad
open Go Go.Proofs.YtjdmhijaanmccaaDoor.Eng Go.Proofs.YtjdmhijaanmccaaDoor.Mem Go.Proofs.YtjdmhijaanmccaaDoor.Ly
set_option linter.unusedSimpArgs false
set_option linter.unusedVariables false
set_option maxRecDepth 100000
def ZO(c:Aj)(q n:Nat):Bool:=meet (Ep c q n).Frame (Ep c q n).BH c.Kernel c.Room
def XM(c:Aj)(q:Nat):Bool:=(List.range (Gz c q).Ai.xs.length).any (ZO c q)
def I8(c:Aj):Bool:=win c.Kernel 0 (c.Frames - 1)&&win c.Room 1 (c.Frames - c.Kernel) && !(List.range c.Aa.xs.length).any (XM c)&&(decide (errOf c=0)&&decide (Pm c≤c.Room))
section
variable (n12:Nat)(y21:Aq)(z:Nat)(c:Aj)(b14 o15:Nat)(b25 o26:Nat)
abbrev Qo:=bk n12 (Aq.arr y21) 52
abbrev MC:=bk z (Aj.arr c) 26
abbrev KL:Dc:=(28,.slice (some ⟨b14,o15,none⟩) c.Aa.xs.length c.Aa.cap)
abbrev RD:Dc:=(35,.slice (some ⟨b25,o26,none⟩) y21.Ai.xs.length y21.Ai.cap)
abbrev Px:Dc:=(28,.slice c.Aa.a c.Aa.xs.length c.Aa.cap)
abbrev Qs:Dc:=(35,.slice y21.Ai.a y21.Ai.xs.length y21.Ai.cap)
abbrev IZ:=(29,Ac c.Aa.xs.length)
abbrev MP:=(36,Ac y21.Ai.xs.length)
end
theorem Y6(w:World)(hL:Iq w)(c:Aj)(hc:Aj.ok Any w c)(hFr:1≤c.Frames∧c.Frames≤1024)(hpf:∀ q,q<c.Aa.xs.length→ED c q=D9):Calls Tryd.prog 75 #[.agg (Aj.arr c)] w fun e w'=>e = .returned (.bool (I8 c))∧CZ (fun _=>False) w w':=by
 obtain⟨z,hz⟩:∃ z,z=w.heap.size:=⟨_,rfl⟩
 refine Cb (args:=[.agg (Aj.arr c)]) 65 ⟨w,z,[(Ak w)]⟩ Tryd.func75 rfl (by kernel_rfl) (by kernel_rfl) (ES hz) ?_
 have hpl:=hc.Aa.1.len;have hkk:(-9223372036854775808:Int)≤c.Kernel∧c.Kernel≤9223372036854775807:=hc.Kernel;have hrr:(-9223372036854775808:Int)≤c.Room∧c.Room≤9223372036854775807:=hc.Room
 refine Ee [0] [(0,.agg (Aj.arr c))] ?_
 refine q_c 7 5 [] [[o0,o0],[o0,(a1 1),o0,(a1 1),(ov (i6 (c.Frames - 1)))]] [Qb z,Qb z,Wr ((c.Frames:Int) - 1) (c.Frames - 1)] [(1,pt z),(10,i6 c.Kernel),(13,i6 (c.Frames - 1))] ⟨w,z+1,[(Ak w),(MC z c)]⟩ rfl ⟨rfl,rfl,CB,Af⟩ ?_
 refine BI 63 #[i6 c.Kernel,i6 0,i6 (c.Frames - 1)] (some 14) (.bool (win c.Kernel 0 (c.Frames - 1))) (fun w1 hw1=>BL w1 c.Kernel 0 (c.Frames - 1)) (fun n2 (hn3:z+1≤n2) => ?_)
 refine DZ [1,14] [(1,pt z),(14,.bool (win c.Kernel 0 (c.Frames - 1)))] ?_
 by_cases h4:(win c.Kernel 0 (c.Frames - 1))=true
 ·have hd5:=H8 h4
  refine Cc 0 9 [] [[(ov (.bool false)),o0,o0,(a1 1),o0,(a1 1),o0,(a1 1),(ov (i6 (c.Frames - c.Kernel)))]] [Value.bool (!(win c.Kernel 0 (c.Frames - 1)))=Value.bool false,Qb z,Qb z,Qb z,Wr ((c.Frames:Int) - c.Kernel) (c.Frames - c.Kernel)] [(1,pt z),(16,.bool false),(18,i6 c.Room),(23,i6 (c.Frames - c.Kernel))] rfl ⟨by simp[h4],rfl,rfl,rfl,CB,Af⟩ ?_
  refine BI 63 #[i6 c.Room,i6 1,i6 (c.Frames - c.Kernel)] (some 24) (.bool (win c.Room 1 (c.Frames - c.Kernel))) (fun w6 hw6=>BL w6 c.Room 1 (c.Frames - c.Kernel)) (fun n7 (hn8:n2≤n7) => ?_)
  refine DZ [1,16,24] [(1,pt z),(16,.bool false),(24,.bool (win c.Room 1 (c.Frames - c.Kernel)))] ?_
  by_cases h9:(win c.Room 1 (c.Frames - c.Kernel))=true
  ·have hd10:=H8 h9
   refine Cc 11 0 [0] [[(ov (.bool false)),o0],[o0,(a1 1),o0,o0]] [Value.bool (!(win c.Room 1 (c.Frames - c.Kernel)))=Value.bool false,Qb z] [(1,pt z),(Px c),(IZ c),(30,i6 0)] rfl ⟨by simp[h9],rfl,Af⟩ ?_
   refine DY (fun m a w'=>∃ (n12:Nat) (q:Nat),m=c.Aa.xs.length - q∧n7≤n12∧(q≤c.Aa.xs.length)∧(∀ a,a<q→XM c a=false)∧St 65 [(1,pt z),(Px c),(IZ c),(30,Ac q)] [] ⟨w,n12,[(Ak w),(MC z c)]⟩ a w') (c.Aa.xs.length - 0) ?_ ?_
   ·intro a w' hs;exact⟨n7,0,rfl,Nat.le_refl _,Nat.zero_le _,fun i hi=>absurd hi (Nat.not_lt_zero i),hs⟩
   rintro m a w' ⟨n12,q,rfl,hn11,hkq,hg,hs⟩
   refine(?_:G Tryd.prog 65 [(1,pt z),(Px c),(IZ c),(30,Ac q)] [] ⟨w,n12,[(Ak w),(MC z c)]⟩ _ _ _) a w' hs
   clear hs a w'
   refine DW ?_
   by_cases h13:(q:Int)<(c.Aa.xs.length:Int)
   ·refine Az 10 0 [1] [[oT]] [BT ((q:Int)<(c.Aa.xs.length:Int))] [(1,pt z),(Px c),(IZ c),(30,Ac q),(31,.bool true)] rfl ⟨bt,Af⟩ ?_
    obtain⟨b14,o15,ha16,hF18,hc17⟩:=(hc.Aa).1.all (show 0<c.Aa.xs.length by omega)
    replace ha16:c.Aa.a=some ⟨b14,o15,none⟩:=ha16
    refine Ku [(1,pt z),(KL c b14 o15),(IZ c),(30,Ac q),(31,.bool true)] (by(try dsimp only[MC,KL,Px,IZ]);simp only[ha16]) ?_
    have hc19:=hc17 q (show q<c.Aa.xs.length by omega)
    have he20:=(hc.Aa).2 q (show q<c.Aa.xs.length by omega)
    obtain⟨y21,hy21⟩:∃ y_,y_=gd c.Aa.xs q:=⟨_,rfl⟩
    rw[←hy21]at he20 hc19
    have hyly21:=he20.Ai.1.len
    refine q_c 8 0 [] [[(oi q),(ol 0 (Aq.arr y21)),o0,(an 8 2)],[o0,(a1 2),o0,o0]] [DJ q,q<c.Aa.xs.length,Di,He w b14 (o15+q*8) (Aq.arr y21),Qb n12,Qb n12,Qb n12,Qb n12,Qb n12,Qb n12,Qb n12,Qb n12,Qb n12] [(1,pt z),(KL c b14 o15),(IZ c),(30,Ac q),(Qs y21),(MP y21),(37,i6 0)] ⟨w,n12+1,[(Ak w),(MC z c),(Qo n12 y21)]⟩ rfl ⟨rfl,(by omega),rfl,EH hc19,rfl,rfl,rfl,rfl,rfl,rfl,rfl,rfl,rfl,Af⟩ ?_
    refine DY (fun m a w'=>∃ (n23:Nat) (n:Nat),m=y21.Ai.xs.length - n∧n12+1≤n23∧(n≤y21.Ai.xs.length)∧(∀ a,a<n→ZO c q a=false)∧St 65 [(1,pt z),(KL c b14 o15),(IZ c),(30,Ac q),(Qs y21),(MP y21),(37,Ac n)] [] ⟨w,n23,[(Ak w),(MC z c),(Qo n12 y21)]⟩ a w') (y21.Ai.xs.length - 0) ?_ ?_
    ·intro a w' hs;exact⟨(n12+1),0,rfl,Nat.le_refl _,Nat.zero_le _,fun i hi=>absurd hi (Nat.not_lt_zero i),hs⟩
    rintro m a w' ⟨n23,n,rfl,hn22,hkn,hh,hs⟩
    refine(?_:G Tryd.prog 65 [(1,pt z),(KL c b14 o15),(IZ c),(30,Ac q),(Qs y21),(MP y21),(37,Ac n)] [] ⟨w,n23,[(Ak w),(MC z c),(Qo n12 y21)]⟩ _ _ _) a w' hs
    clear hs a w'
    refine DW ?_
    by_cases h24:(n:Int)<(y21.Ai.xs.length:Int)
    ·refine Az 10 0 [1] [[oT]] [BT ((n:Int)<(y21.Ai.xs.length:Int))] [(1,pt z),(KL c b14 o15),(IZ c),(30,Ac q),(Qs y21),(MP y21),(37,Ac n),(38,.bool true)] rfl ⟨bt,Af⟩ ?_
     obtain⟨b25,o26,ha27,hF29,hc28⟩:=(he20.Ai).1.all (show 0<y21.Ai.xs.length by omega)
     replace ha27:y21.Ai.a=some ⟨b25,o26,none⟩:=ha27
     refine Ku [(1,pt z),(KL c b14 o15),(IZ c),(30,Ac q),(RD y21 b25 o26),(MP y21),(37,Ac n),(38,.bool true)] (by(try dsimp only[Qo,MC,KL,RD,Px,Qs,IZ,MP]);simp only[ha27]) ?_
     have hc30:=hc28 n (show n<y21.Ai.xs.length by omega)
     have he31:=(he20.Ai).2 n (show n<y21.Ai.xs.length by omega)
     obtain⟨y32,hy32⟩:∃ y_,y_=gd y21.Ai.xs n:=⟨_,rfl⟩
     rw[←hy32]at he31 hc30
     refine q_c 5 8 [] [[(oi n),(ol 0 (BD.arr y32)),o0,(an 4 3)],[o0,(a1 3),o0,(a1 3),o0,(a1 1),o0,(a1 1)]] [DJ n,n<y21.Ai.xs.length,Di,He w b25 (o26+n*4) (BD.arr y32),Qb n23,Qb n23,Qb n23,Qb n23,Qb n23,Qb n23,Qb z,Qb z] [(1,pt z),(KL c b14 o15),(IZ c),(30,Ac q),(RD y21 b25 o26),(MP y21),(37,Ac n),(42,i6 y32.Frame),(44,i6 y32.BH),(46,i6 c.Kernel),(48,i6 c.Room)] ⟨w,n23+1,[(Ak w),(MC z c),(Qo n12 y21),(bk n23 (BD.arr y32) 103)]⟩ rfl ⟨rfl,(by omega),rfl,EH hc30,rfl,rfl,rfl,rfl,rfl,rfl,rfl,rfl,Af⟩ ?_
     have hm34:=Ua hFr.2 (TP (hpf q (by omega))) n (by dsimp only[Gz];rw[←hy21];omega);dsimp only[Ep]at hm34;rw[←hy21,←hy32]at hm34;unfold Bd at hm34
     refine BI 99 #[i6 y32.Frame,i6 y32.BH,i6 c.Kernel,i6 c.Room] (some 49) (.bool (meet y32.Frame y32.BH c.Kernel c.Room)) (fun w33 hw33=>Q5 w33 y32.Frame y32.BH c.Kernel c.Room (by omega) (by omega) (by omega) (by omega)) (fun n35 (hn36:n23+1≤n35) => ?_)
     refine DZ [1,28,29,30,35,36,37,49] [(1,pt z),(KL c b14 o15),(IZ c),(30,Ac q),(RD y21 b25 o26),(MP y21),(37,Ac n),(49,.bool (meet y32.Frame y32.BH c.Kernel c.Room))] ?_
     refine ZT (by kernel_rfl) ?_
     refine IV ?_
     by_cases h37:(meet y32.Frame y32.BH c.Kernel c.Room)=true
     ·refine Az 6 0 [3] [[o0]] [Value.bool (meet y32.Frame y32.BH c.Kernel c.Room)=Value.bool true] [(2,.bool false)] rfl ⟨(congrArg Value.bool h37),Af⟩ ?_
      refine AO [] [] (.bool false) Af ?_
      intro w38 hw38
      refine⟨congrArg (fun b=>Ending.returned (Value.bool b)) (?_:false=I8 c),Bi hw38⟩
      have en:Ep c q n=y32:=(by dsimp only[Ep];rw[←hy21,←hy32])
      have eo:(List.range c.Aa.xs.length).any (XM c)=true:=range_any (k:=q) (by omega) (range_any (k:=n) (by dsimp only[Gz];rw[←hy21];omega) (by unfold ZO;rw[en];exact h37))
      unfold I8;simp[eo]
     refine Az 6 0 [2] [[(ov (i6 ((n+1:Nat):Int))),o0]] [Value.bool (meet y32.Frame y32.BH c.Kernel c.Room)=Value.bool false,Wr ((n:Int)+1) (((n+1:Nat):Int))] [(1,pt z),(KL c b14 o15),(IZ c),(30,Ac q),(RD y21 b25 o26),(MP y21),(37,i6 ((n+1:Nat):Int))] rfl ⟨(congrArg Value.bool (Bool.eq_false_iff.2 h37)),CB,Af⟩ ?_
     refine BX [0,1,2] [(Ak w),(MC z c),(Qo n12 y21)] rfl rfl ?_
     refine FT [1,28,29,30,35,36,37] [(1,pt z),(KL c b14 o15),(IZ c),(30,Ac q),(Qs y21),(MP y21),(37,i6 ((n+1:Nat):Int))] (by(try dsimp only[Qo,MC,KL,RD,Px,Qs,IZ,MP]);simp only[ha27];rfl) ?_
     refine Cf (fun a w' hs=>⟨y21.Ai.xs.length - (n+1),by omega,n35,(n+1),rfl,by omega,by omega,Ha hh (by have en:Ep c q n=y32:=(by dsimp only[Ep];rw[←hy21,←hy32]);unfold ZO;rw[en];simpa using h37),hs⟩)
    refine Az 13 0 [0] [[oF],[(ov (i6 ((q+1:Nat):Int))),o0]] [BF ((n:Int)<(y21.Ai.xs.length:Int)),Wr ((q:Int)+1) (((q+1:Nat):Int))] [(1,pt z),(KL c b14 o15),(IZ c),(30,i6 ((q+1:Nat):Int))] rfl ⟨bf,CB,Af⟩ ?_
    refine BX [0,1] [(Ak w),(MC z c)] rfl rfl ?_
    refine FT [1,28,29,30] [(1,pt z),(Px c),(IZ c),(30,i6 ((q+1:Nat):Int))] (by(try dsimp only[Qo,MC,KL,RD,Px,Qs,IZ,MP]);simp only[ha16];rfl) ?_
    refine Cf (fun a w' hs=>⟨c.Aa.xs.length - (q+1),by omega,n23,(q+1),rfl,by omega,by omega,Ha hg (JK (fun i hi=>hh i (by dsimp only[Gz]at hi;rw[←hy21]at hi;omega))),hs⟩)
   refine Az 12 1 [0] [[oF],[(an 7 1)]] [BF ((q:Int)<(c.Aa.xs.length:Int)),Qb z,Qb z,Qb z,Qb z,Qb z,Qb z,Qb z] [(1,pt z),(53,.agg (Aj.arr c))] rfl ⟨bf,rfl,rfl,rfl,rfl,rfl,rfl,rfl,Af⟩ ?_
   refine BI 100 #[.agg (Aj.arr c)] (some 54) (.tuple #[i6 (Pm c),i6 (errOf c)]) (fun w39 hw39=>ZW w39 c (hc.ext (hw39.ext rfl) (fun _ h=>h))) (fun n40 (hn41:n12≤n40) => ?_)
   refine Cc 3 0 [] [[o0,o0,o0,o0,o0]] [] [(1,pt z),(7,i6 (Pm c)),(8,i6 (errOf c))] rfl Af ?_
   by_cases h42:(errOf c:Int)=0
   ·by_cases h43:(c.Room:Int)<Pm c
    ·refine Az 4 0 [] [[o0,oT,o0,o0,o0,(a1 1),oF,o0,o0]] [ET (errOf c) 0,Qb z,BF ((Pm c:Int)≤c.Room)] [(2,.bool false)] rfl ⟨et,rfl,bf,Af⟩ ?_
     refine AO [] [] (.bool false) Af ?_
     intro w44 hw44
     refine⟨congrArg (fun b=>Ending.returned (Value.bool b)) (?_:false=I8 c),Bi hw44⟩
     have eo:(List.range c.Aa.xs.length).any (XM c)=false:=JK (fun i hi=>hg i (by omega))
     unfold I8;rw[eo];simp[h4,h9];first | done | omega
    refine Az 4 0 [] [[o0,oT,o0,o0,o0,(a1 1),oT,o0,o0]] [ET (errOf c) 0,Qb z,BT ((Pm c:Int)≤c.Room)] [(2,.bool true)] rfl ⟨et,rfl,bt,Af⟩ ?_
    refine AO [] [] (.bool true) Af ?_
    intro w45 hw45
    refine⟨congrArg (fun b=>Ending.returned (Value.bool b)) (?_:true=I8 c),Bi hw45⟩
    have eo:(List.range c.Aa.xs.length).any (XM c)=false:=JK (fun i hi=>hg i (by omega))
    unfold I8;rw[eo];simp[h4,h9];first | done | omega
   refine Az 4 0 [] [[o0,oF,o0,o0,o0]] [EF (errOf c) 0] [(2,.bool false)] rfl ⟨ef,Af⟩ ?_
   refine AO [] [] (.bool false) Af ?_
   intro w46 hw46
   refine⟨congrArg (fun b=>Ending.returned (Value.bool b)) (?_:false=I8 c),Bi hw46⟩
   have eo:(List.range c.Aa.xs.length).any (XM c)=false:=JK (fun i hi=>hg i (by omega))
   unfold I8;rw[eo];simp[h4,h9];first | done | omega
  have hd47:=Ko h9
  refine Cc 8 0 [1] [[(ov (.bool true)),o0],[o0]] [Value.bool (!(win c.Room 1 (c.Frames - c.Kernel)))=Value.bool true] [(2,.bool false)] rfl ⟨by simp[h9],Af⟩ ?_
  refine AO [] [] (.bool false) Af ?_
  intro w48 hw48
  refine⟨congrArg (fun b=>Ending.returned (Value.bool b)) (?_:false=I8 c),Bi hw48⟩
  unfold I8;simp[h4,h9]
 have hd49:=Ko h4
 refine Cc 8 0 [1] [[(ov (.bool true)),o0,o0],[o0]] [Value.bool (!(win c.Kernel 0 (c.Frames - 1)))=Value.bool true] [(2,.bool false)] rfl ⟨by simp[h4],Af⟩ ?_
 refine AO [] [] (.bool false) Af ?_
 intro w50 hw50
 refine⟨congrArg (fun b=>Ending.returned (Value.bool b)) (?_:false=I8 c),Bi hw50⟩
 unfold I8;simp[h4]
def GN(c:Aj):Am:=Ae (win c.Frames 1 1024) 400 ⟨-1, -1⟩
def whole2(c:Aj):Am:=Ae (win c.Il 1 16384) 401 ⟨-1, -1⟩
def GK(c:Aj):Am:=Ae (win (c.Dk.xs.length:Int) 1 4) 402 ⟨-1, -1⟩
def GM(c:Aj):Am:=Ae (win (c.Aa.xs.length:Int) 1 8) 403 ⟨-1, -1⟩
def Gx(c:Aj):Am:=Ae (decide ((c.Ah.xs.length:Int)≤16)) 404 ⟨-1, -1⟩
def I4(c:Aj):Am:=Ae (I8 c) 423 ⟨-1, -1⟩
theorem q1_calls(w:World)(hL:Iq w)(c:Aj)(hc:Aj.ok Any w c)(bc:Nat)(hbc:∀ (k:Nat) (v:Value),(Aj.cells c)[k]? = some v→w.cell? ⟨bc,0+k,none⟩=some v):Calls Tryd.prog 61 #[.pointer (some ⟨bc,0,none⟩)] w fun e w'=>e = .returned (.agg (Am.arr (GN c)))∧CZ (fun _=>False) w w':=by
 obtain⟨z,hz⟩:∃ z,z=w.heap.size:=⟨_,rfl⟩
 refine Cb (args:=[pt bc]) 7 ⟨w,z,[(Ak w)]⟩ Tryd.func61 rfl (by kernel_rfl) (by kernel_rfl) (ES hz) ?_
 have hpl:=hc.Aa.1.len;have hpc:=hc.Dk.1.len;have hpch:=hc.Ah.1.len
 refine Ee [0] [(0,pt bc)] ?_
 refine q_c 5 0 [] [[o0]] [] [(0,pt bc),(1,pt z)] ⟨w,z+1,[(Ak w),(bk z #[i6 0,i6 0,i6 0] 111)]⟩ rfl Af ?_
 refine Eo 5 [0,1] [(Ak w),(bk z #[i6 0,i6 0,i6 0] 111)] rfl rfl ?_
 refine JZ [.tk 0 o0,.tk 1 (oa [.via 0 (i6 c.Frames)]),.tk 3 (oa [.via 0 (i6 (-1)),.via 0 (i6 (-1))]),.cl 2 (.bool (win c.Frames 1 1024)),.cl 4 (.agg (Am.arr (Ae (win c.Frames 1 1024) 400 ⟨-1, -1⟩)))] [1,6] [(63,#[i6 c.Frames,i6 1,i6 1024],.bool (win c.Frames 1 1024)),(62,#[.bool (win c.Frames 1 1024),i6 400,.agg #[i6 (-1),i6 (-1)]],.agg (Am.arr (Ae (win c.Frames 1 1024) 400 ⟨-1, -1⟩)))] (DC 5 1) [Old w bc 0 (i6 c.Frames),Old w 1 0 (i6 (-1)),Old w 1 1 (i6 (-1))] [(1,pt z),(6,.agg (Am.arr (Ae (win c.Frames 1 1024) 400 ⟨-1, -1⟩)))] [0,1] ⟨Aw (hbc 0 _ rfl),Aw (hL.1 0 _ rfl),Aw (hL.1 1 _ rfl),Af⟩ ⟨fun w1 hw1=>BL w1 c.Frames 1 1024,fun w2 hw2=>AY w2 (hL.ext (hw2.ext rfl)) (win c.Frames 1 1024) 400 (-1) (-1),Af⟩ (fun n3 hn4 => ?_)
 replace hn4:z+1≤n3:=hn4
 refine Bv 5 ?_
 refine BC (an 3 1) [1] [Qb z,Qb z,Qb z] [(1,pt z)] ⟨w,n3,[(Ak w),(.blk z (.cells (Am.arr (Ae (win c.Frames 1 1024) 400 ⟨-1, -1⟩)) 111 (0,0)) true)]⟩ [] ⟨rfl,rfl,rfl,Af⟩ (.inl rfl) ?_
 refine DV 6 [0,1] [(Ak w),(.blk z (.cells (Am.arr (Ae (win c.Frames 1 1024) 400 ⟨-1, -1⟩)) 111 (0,0)) true)] rfl rfl ?_
 refine Dl ?_
 refine BR [1] [(1,pt z)] ?_
 refine IV <| KP <| AO [.at 1,.at 1,.at 1] [Qb z,Qb z,Qb z] (.agg #[i6 ((Ae (win c.Frames 1 1024) 400 ⟨-1, -1⟩).e),i6 ((Ae (win c.Frames 1 1024) 400 ⟨-1, -1⟩).Ag.First),i6 ((Ae (win c.Frames 1 1024) 400 ⟨-1, -1⟩).Ag.Second)]) ⟨rfl,rfl,rfl,Af⟩ ?_
 intro w5 hw5
 exact⟨congrArg (fun t=>Ending.returned (Value.agg (Am.arr t))) (show(Ae (win c.Frames 1 1024) 400 ⟨-1, -1⟩)=GN c from by unfold GN;first | rfl | rw[decide_eq_false (by omega)] | rw[decide_eq_true (by omega)]),Bi hw5⟩
theorem q2_calls(w:World)(hL:Iq w)(c:Aj)(hc:Aj.ok Any w c)(bc:Nat)(hbc:∀ (k:Nat) (v:Value),(Aj.cells c)[k]? = some v→w.cell? ⟨bc,0+k,none⟩=some v):Calls Tryd.prog 64 #[.pointer (some ⟨bc,0,none⟩)] w fun e w'=>e = .returned (.agg (Am.arr (whole2 c)))∧CZ (fun _=>False) w w':=by
 obtain⟨z,hz⟩:∃ z,z=w.heap.size:=⟨_,rfl⟩
 refine Cb (args:=[pt bc]) 7 ⟨w,z,[(Ak w)]⟩ Tryd.func64 rfl (by kernel_rfl) (by kernel_rfl) (ES hz) ?_
 have hpl:=hc.Aa.1.len;have hpc:=hc.Dk.1.len;have hpch:=hc.Ah.1.len
 refine Ee [0] [(0,pt bc)] ?_
 refine q_c 5 0 [] [[o0]] [] [(0,pt bc),(1,pt z)] ⟨w,z+1,[(Ak w),(bk z #[i6 0,i6 0,i6 0] 111)]⟩ rfl Af ?_
 refine Eo 5 [0,1] [(Ak w),(bk z #[i6 0,i6 0,i6 0] 111)] rfl rfl ?_
 refine JZ [.tk 0 o0,.tk 1 (oa [.via 0 (i6 c.Il)]),.tk 3 (oa [.via 0 (i6 (-1)),.via 0 (i6 (-1))]),.cl 2 (.bool (win c.Il 1 16384)),.cl 4 (.agg (Am.arr (Ae (win c.Il 1 16384) 401 ⟨-1, -1⟩)))] [1,6] [(63,#[i6 c.Il,i6 1,i6 16384],.bool (win c.Il 1 16384)),(62,#[.bool (win c.Il 1 16384),i6 401,.agg #[i6 (-1),i6 (-1)]],.agg (Am.arr (Ae (win c.Il 1 16384) 401 ⟨-1, -1⟩)))] (DC 5 1) [Old w bc 1 (i6 c.Il),Old w 1 0 (i6 (-1)),Old w 1 1 (i6 (-1))] [(1,pt z),(6,.agg (Am.arr (Ae (win c.Il 1 16384) 401 ⟨-1, -1⟩)))] [0,1] ⟨Aw (hbc 1 _ rfl),Aw (hL.1 0 _ rfl),Aw (hL.1 1 _ rfl),Af⟩ ⟨fun w1 hw1=>BL w1 c.Il 1 16384,fun w2 hw2=>AY w2 (hL.ext (hw2.ext rfl)) (win c.Il 1 16384) 401 (-1) (-1),Af⟩ (fun n3 hn4 => ?_)
 replace hn4:z+1≤n3:=hn4
 refine Bv 5 ?_
 refine BC (an 3 1) [1] [Qb z,Qb z,Qb z] [(1,pt z)] ⟨w,n3,[(Ak w),(.blk z (.cells (Am.arr (Ae (win c.Il 1 16384) 401 ⟨-1, -1⟩)) 111 (0,0)) true)]⟩ [] ⟨rfl,rfl,rfl,Af⟩ (.inl rfl) ?_
 refine DV 6 [0,1] [(Ak w),(.blk z (.cells (Am.arr (Ae (win c.Il 1 16384) 401 ⟨-1, -1⟩)) 111 (0,0)) true)] rfl rfl ?_
 refine Dl ?_
 refine BR [1] [(1,pt z)] ?_
 refine IV <| KP <| AO [.at 1,.at 1,.at 1] [Qb z,Qb z,Qb z] (.agg #[i6 ((Ae (win c.Il 1 16384) 401 ⟨-1, -1⟩).e),i6 ((Ae (win c.Il 1 16384) 401 ⟨-1, -1⟩).Ag.First),i6 ((Ae (win c.Il 1 16384) 401 ⟨-1, -1⟩).Ag.Second)]) ⟨rfl,rfl,rfl,Af⟩ ?_
 intro w5 hw5
 exact⟨congrArg (fun t=>Ending.returned (Value.agg (Am.arr t))) (show(Ae (win c.Il 1 16384) 401 ⟨-1, -1⟩)=whole2 c from by unfold whole2;first | rfl | rw[decide_eq_false (by omega)] | rw[decide_eq_true (by omega)]),Bi hw5⟩
section
variable (z:Nat)(c:Aj)
abbrev ZaG:Ch:= .blk z (.cells (Am.arr (Ae (win (c.Dk.xs.length:Int) 1 4) 402 ⟨-1, -1⟩)) 111 (0,0)) true
end
theorem q3_calls(w:World)(hL:Iq w)(c:Aj)(hc:Aj.ok Any w c)(bc:Nat)(hbc:∀ (k:Nat) (v:Value),(Aj.cells c)[k]? = some v→w.cell? ⟨bc,0+k,none⟩=some v):Calls Tryd.prog 65 #[.pointer (some ⟨bc,0,none⟩)] w fun e w'=>e = .returned (.agg (Am.arr (GK c)))∧CZ (fun _=>False) w w':=by
 obtain⟨z,hz⟩:∃ z,z=w.heap.size:=⟨_,rfl⟩
 refine Cb (args:=[pt bc]) 8 ⟨w,z,[(Ak w)]⟩ Tryd.func65 rfl (by kernel_rfl) (by kernel_rfl) (ES hz) ?_
 have hpl:=hc.Aa.1.len;have hpc:=hc.Dk.1.len;have hpch:=hc.Ah.1.len
 refine Ee [0] [(0,pt bc)] ?_
 refine q_c 5 0 [] [[o0]] [] [(0,pt bc),(1,pt z)] ⟨w,z+1,[(Ak w),(bk z #[i6 0,i6 0,i6 0] 111)]⟩ rfl Af ?_
 refine Eo 6 [0,1] [(Ak w),(bk z #[i6 0,i6 0,i6 0] 111)] rfl rfl ?_
 refine JZ [.tk 0 o0,.tk 1 (oa [.via 0 (.slice c.Dk.a c.Dk.xs.length c.Dk.cap)]),.tk 2 o0,.tk 4 (oa [.via 0 (i6 (-1)),.via 0 (i6 (-1))]),.cl 3 (.bool (win (c.Dk.xs.length:Int) 1 4)),.cl 5 (.agg (Am.arr (Ae (win (c.Dk.xs.length:Int) 1 4) 402 ⟨-1, -1⟩)))] [1,7] [(63,#[(Ac c.Dk.xs.length),i6 1,i6 4],.bool (win (c.Dk.xs.length:Int) 1 4)),(62,#[.bool (win (c.Dk.xs.length:Int) 1 4),i6 402,.agg #[i6 (-1),i6 (-1)]],.agg (Am.arr (Ae (win (c.Dk.xs.length:Int) 1 4) 402 ⟨-1, -1⟩)))] (DC 6 1) [Old w bc 4 (.slice c.Dk.a c.Dk.xs.length c.Dk.cap),Old w 1 0 (i6 (-1)),Old w 1 1 (i6 (-1))] [(1,pt z),(7,.agg (Am.arr (Ae (win (c.Dk.xs.length:Int) 1 4) 402 ⟨-1, -1⟩)))] [0,1] ⟨Aw (hbc 4 _ rfl),Aw (hL.1 0 _ rfl),Aw (hL.1 1 _ rfl),Af⟩ ⟨fun w1 hw1=>BL w1 (c.Dk.xs.length:Int) 1 4,fun w2 hw2=>AY w2 (hL.ext (hw2.ext rfl)) (win (c.Dk.xs.length:Int) 1 4) 402 (-1) (-1),Af⟩ (fun n3 hn4 => ?_)
 replace hn4:z+1≤n3:=hn4
 refine Bv 6 ?_
 refine BC (an 3 1) [1] [Qb z,Qb z,Qb z] [(1,pt z)] ⟨w,n3,[(Ak w),(ZaG z c)]⟩ [] ⟨rfl,rfl,rfl,Af⟩ (.inl rfl) ?_
 refine DV 7 [0,1] [(Ak w),(ZaG z c)] rfl rfl ?_
 refine Dl ?_
 refine BR [1] [(1,pt z)] ?_
 refine IV <| KP <| AO [.at 1,.at 1,.at 1] [Qb z,Qb z,Qb z] (.agg #[i6 ((Ae (win (c.Dk.xs.length:Int) 1 4) 402 ⟨-1, -1⟩).e),i6 ((Ae (win (c.Dk.xs.length:Int) 1 4) 402 ⟨-1, -1⟩).Ag.First),i6 ((Ae (win (c.Dk.xs.length:Int) 1 4) 402 ⟨-1, -1⟩).Ag.Second)]) ⟨rfl,rfl,rfl,Af⟩ ?_
 intro w5 hw5
 exact⟨congrArg (fun t=>Ending.returned (Value.agg (Am.arr t))) (show(Ae (win (c.Dk.xs.length:Int) 1 4) 402 ⟨-1, -1⟩)=GK c from by unfold GK;first | rfl | rw[decide_eq_false (by omega)] | rw[decide_eq_true (by omega)]),Bi hw5⟩
section
variable (z:Nat)(c:Aj)
abbrev Zbf:Ch:= .blk z (.cells (Am.arr (Ae (win (c.Aa.xs.length:Int) 1 8) 403 ⟨-1, -1⟩)) 111 (0,0)) true
end
theorem q4_calls(w:World)(hL:Iq w)(c:Aj)(hc:Aj.ok Any w c)(bc:Nat)(hbc:∀ (k:Nat) (v:Value),(Aj.cells c)[k]? = some v→w.cell? ⟨bc,0+k,none⟩=some v):Calls Tryd.prog 66 #[.pointer (some ⟨bc,0,none⟩)] w fun e w'=>e = .returned (.agg (Am.arr (GM c)))∧CZ (fun _=>False) w w':=by
 obtain⟨z,hz⟩:∃ z,z=w.heap.size:=⟨_,rfl⟩
 refine Cb (args:=[pt bc]) 8 ⟨w,z,[(Ak w)]⟩ Tryd.func66 rfl (by kernel_rfl) (by kernel_rfl) (ES hz) ?_
 have hpl:=hc.Aa.1.len;have hpc:=hc.Dk.1.len;have hpch:=hc.Ah.1.len
 refine Ee [0] [(0,pt bc)] ?_
 refine q_c 5 0 [] [[o0]] [] [(0,pt bc),(1,pt z)] ⟨w,z+1,[(Ak w),(bk z #[i6 0,i6 0,i6 0] 111)]⟩ rfl Af ?_
 refine Eo 6 [0,1] [(Ak w),(bk z #[i6 0,i6 0,i6 0] 111)] rfl rfl ?_
 refine JZ [.tk 0 o0,.tk 1 (oa [.via 0 (.slice c.Aa.a c.Aa.xs.length c.Aa.cap)]),.tk 2 o0,.tk 4 (oa [.via 0 (i6 (-1)),.via 0 (i6 (-1))]),.cl 3 (.bool (win (c.Aa.xs.length:Int) 1 8)),.cl 5 (.agg (Am.arr (Ae (win (c.Aa.xs.length:Int) 1 8) 403 ⟨-1, -1⟩)))] [1,7] [(63,#[(Ac c.Aa.xs.length),i6 1,i6 8],.bool (win (c.Aa.xs.length:Int) 1 8)),(62,#[.bool (win (c.Aa.xs.length:Int) 1 8),i6 403,.agg #[i6 (-1),i6 (-1)]],.agg (Am.arr (Ae (win (c.Aa.xs.length:Int) 1 8) 403 ⟨-1, -1⟩)))] (DC 6 1) [Old w bc 5 (.slice c.Aa.a c.Aa.xs.length c.Aa.cap),Old w 1 0 (i6 (-1)),Old w 1 1 (i6 (-1))] [(1,pt z),(7,.agg (Am.arr (Ae (win (c.Aa.xs.length:Int) 1 8) 403 ⟨-1, -1⟩)))] [0,1] ⟨Aw (hbc 5 _ rfl),Aw (hL.1 0 _ rfl),Aw (hL.1 1 _ rfl),Af⟩ ⟨fun w1 hw1=>BL w1 (c.Aa.xs.length:Int) 1 8,fun w2 hw2=>AY w2 (hL.ext (hw2.ext rfl)) (win (c.Aa.xs.length:Int) 1 8) 403 (-1) (-1),Af⟩ (fun n3 hn4 => ?_)
 replace hn4:z+1≤n3:=hn4
 refine Bv 6 ?_
 refine BC (an 3 1) [1] [Qb z,Qb z,Qb z] [(1,pt z)] ⟨w,n3,[(Ak w),(Zbf z c)]⟩ [] ⟨rfl,rfl,rfl,Af⟩ (.inl rfl) ?_
 refine DV 7 [0,1] [(Ak w),(Zbf z c)] rfl rfl ?_
 refine Dl ?_
 refine BR [1] [(1,pt z)] ?_
 refine IV <| KP <| AO [.at 1,.at 1,.at 1] [Qb z,Qb z,Qb z] (.agg #[i6 ((Ae (win (c.Aa.xs.length:Int) 1 8) 403 ⟨-1, -1⟩).e),i6 ((Ae (win (c.Aa.xs.length:Int) 1 8) 403 ⟨-1, -1⟩).Ag.First),i6 ((Ae (win (c.Aa.xs.length:Int) 1 8) 403 ⟨-1, -1⟩).Ag.Second)]) ⟨rfl,rfl,rfl,Af⟩ ?_
 intro w5 hw5
 exact⟨congrArg (fun t=>Ending.returned (Value.agg (Am.arr t))) (show(Ae (win (c.Aa.xs.length:Int) 1 8) 403 ⟨-1, -1⟩)=GM c from by unfold GM;first | rfl | rw[decide_eq_false (by omega)] | rw[decide_eq_true (by omega)]),Bi hw5⟩
theorem q5_calls(w:World)(hL:Iq w)(c:Aj)(hc:Aj.ok Any w c)(bc:Nat)(hbc:∀ (k:Nat) (v:Value),(Aj.cells c)[k]? = some v→w.cell? ⟨bc,0+k,none⟩=some v):Calls Tryd.prog 67 #[.pointer (some ⟨bc,0,none⟩)] w fun e w'=>e = .returned (.agg (Am.arr (Gx c)))∧CZ (fun _=>False) w w':=by
 obtain⟨z,hz⟩:∃ z,z=w.heap.size:=⟨_,rfl⟩
 refine Cb (args:=[pt bc]) 8 ⟨w,z,[(Ak w)]⟩ Tryd.func67 rfl (by kernel_rfl) (by kernel_rfl) (ES hz) ?_
 have hpl:=hc.Aa.1.len;have hpc:=hc.Dk.1.len;have hpch:=hc.Ah.1.len
 refine Ee [0] [(0,pt bc)] ?_
 refine q_c 5 0 [] [[o0]] [] [(0,pt bc),(1,pt z)] ⟨w,z+1,[(Ak w),(bk z #[i6 0,i6 0,i6 0] 111)]⟩ rfl Af ?_
 by_cases h1:(16:Int)<(c.Ah.xs.length:Int)
 ·refine Az 1 5 [] [[o0,(oa [.via 0 (.slice c.Ah.a c.Ah.xs.length c.Ah.cap)]),o0,oF,(oa [.via 0 (i6 (-1)),.via 0 (i6 (-1))])]] [Old w bc 6 (.slice c.Ah.a c.Ah.xs.length c.Ah.cap),BF ((c.Ah.xs.length:Int)≤16),Old w 1 0 (i6 (-1)),Old w 1 1 (i6 (-1))] [(1,pt z),(5,.bool false),(6,.agg #[i6 (-1),i6 (-1)])] rfl ⟨Aw (hbc 6 _ rfl),bf,Aw (hL.1 0 _ rfl),Aw (hL.1 1 _ rfl),Af⟩ ?_
  refine BI 62 #[.bool false,i6 404,.agg #[i6 (-1),i6 (-1)]] (some 7) (.agg (Am.arr (Ae false 404 ⟨-1, -1⟩))) (fun w2 hw2=>AY w2 (hL.ext (hw2.ext rfl)) false 404 (-1) (-1)) (fun n3 (hn4:z+1≤n3) => ?_)
  refine Gi 3 0 [] [[(an 3 1)]] [Qb z,Qb z,Qb z] [(1,pt z)] ⟨w,n3,[(Ak w),(bk z (Am.arr (Ae false 404 ⟨-1, -1⟩)) 111)]⟩ rfl ⟨rfl,rfl,rfl,Af⟩ ?_
  refine AO [.at 1,.at 1,.at 1] [Qb z,Qb z,Qb z] (.agg #[i6 ((Ae false 404 ⟨-1, -1⟩).e),i6 ((Ae false 404 ⟨-1, -1⟩).Ag.First),i6 ((Ae false 404 ⟨-1, -1⟩).Ag.Second)]) ⟨rfl,rfl,rfl,Af⟩ ?_
  intro w5 hw5
  exact⟨congrArg (fun t=>Ending.returned (Value.agg (Am.arr t))) (show(Ae false 404 ⟨-1, -1⟩)=Gx c from by unfold Gx;first | rfl | rw[decide_eq_false (by omega)] | rw[decide_eq_true (by omega)]),Bi hw5⟩
 refine Az 1 5 [] [[o0,(oa [.via 0 (.slice c.Ah.a c.Ah.xs.length c.Ah.cap)]),o0,oT,(oa [.via 0 (i6 (-1)),.via 0 (i6 (-1))])]] [Old w bc 6 (.slice c.Ah.a c.Ah.xs.length c.Ah.cap),BT ((c.Ah.xs.length:Int)≤16),Old w 1 0 (i6 (-1)),Old w 1 1 (i6 (-1))] [(1,pt z),(5,.bool true),(6,.agg #[i6 (-1),i6 (-1)])] rfl ⟨Aw (hbc 6 _ rfl),bt,Aw (hL.1 0 _ rfl),Aw (hL.1 1 _ rfl),Af⟩ ?_
 refine BI 62 #[.bool true,i6 404,.agg #[i6 (-1),i6 (-1)]] (some 7) (.agg (Am.arr (Ae true 404 ⟨-1, -1⟩))) (fun w6 hw6=>AY w6 (hL.ext (hw6.ext rfl)) true 404 (-1) (-1)) (fun n7 (hn8:z+1≤n7) => ?_)
 refine Gi 3 0 [] [[(an 3 1)]] [Qb z,Qb z,Qb z] [(1,pt z)] ⟨w,n7,[(Ak w),(bk z (Am.arr (Ae true 404 ⟨-1, -1⟩)) 111)]⟩ rfl ⟨rfl,rfl,rfl,Af⟩ ?_
 refine AO [.at 1,.at 1,.at 1] [Qb z,Qb z,Qb z] (.agg #[i6 ((Ae true 404 ⟨-1, -1⟩).e),i6 ((Ae true 404 ⟨-1, -1⟩).Ag.First),i6 ((Ae true 404 ⟨-1, -1⟩).Ag.Second)]) ⟨rfl,rfl,rfl,Af⟩ ?_
 intro w9 hw9
 exact⟨congrArg (fun t=>Ending.returned (Value.agg (Am.arr t))) (show(Ae true 404 ⟨-1, -1⟩)=Gx c from by unfold Gx;first | rfl | rw[decide_eq_false (by omega)] | rw[decide_eq_true (by omega)]),Bi hw9⟩
theorem q6_calls(w:World)(hL:Iq w)(c:Aj)(hc:Aj.ok Any w c)(bc:Nat)(hbc:∀ (k:Nat) (v:Value),(Aj.cells c)[k]? = some v→w.cell? ⟨bc,0+k,none⟩=some v)(b p:Nat)(hb:∀ (k:Nat) (v:Value),[Value.int .i64 (p:Nat)][k]? = some v→w.cell? ⟨b,0+k,none⟩=some v)(hp:p<c.Aa.xs.length)(hFr:1≤c.Frames∧c.Frames≤1024)(hpf:∀ q,q<p→ED c q=D9):Calls Tryd.prog 68 #[.pointer (some ⟨bc,0,none⟩),.pointer (some ⟨b,0,none⟩)] w fun e w'=>e = .returned (.agg (Am.arr (ED c p)))∧CZ (fun _=>False) w w':=by
 obtain⟨z,hz⟩:∃ z,z=w.heap.size:=⟨_,rfl⟩
 refine Cb (args:=[pt bc,pt b]) 6 ⟨w,z,[(Ak w)]⟩ Tryd.func68 rfl (by kernel_rfl) (by kernel_rfl) (ES hz) ?_
 have hpl:=hc.Aa.1.len;have hpc:=hc.Dk.1.len;have hpch:=hc.Ah.1.len
 refine Ee [0,1] [(0,pt bc),(1,pt b)] ?_
 refine q_c 6 2 [] [[o0],[(ol 0 (Aj.arr c)),(oa [.via 0 (Ac p)])]] [He w bc 0 (Aj.arr c),Old w b 0 (Ac p)] [(2,pt z),(3,.agg (Aj.arr c)),(4,Ac p)] ⟨w,z+1,[(Ak w),(bk z #[i6 0,i6 0,i6 0] 111)]⟩ rfl ⟨EH hbc,Aw (hb 0 _ rfl),Af⟩ ?_
 refine BI 69 #[.agg (Aj.arr c),Ac p] (some 5) (.agg (Am.arr (ED c p))) (fun w1 hw1=>P5 w1 (hL.ext (hw1.ext rfl)) c (hc.ext (hw1.ext rfl) (fun _ h=>h)) p hp hFr hpf) (fun n2 (hn3:z+1≤n2) => ?_)
 refine Gi 3 0 [] [[(an 3 1)]] [Qb z,Qb z,Qb z] [(2,pt z)] ⟨w,n2,[(Ak w),(bk z (Am.arr (ED c p)) 111)]⟩ rfl ⟨rfl,rfl,rfl,Af⟩ ?_
 refine AO [.at 1,.at 1,.at 1] [Qb z,Qb z,Qb z] (.agg #[i6 ((ED c p).e),i6 ((ED c p).Ag.First),i6 ((ED c p).Ag.Second)]) ⟨rfl,rfl,rfl,Af⟩ ?_
 intro w4 hw4
 exact⟨rfl,Bi hw4⟩
theorem q7_calls(w:World)(hL:Iq w)(c:Aj)(hc:Aj.ok Any w c)(bc:Nat)(hbc:∀ (k:Nat) (v:Value),(Aj.cells c)[k]? = some v→w.cell? ⟨bc,0+k,none⟩=some v)(b p:Nat)(hb:∀ (k:Nat) (v:Value),[Value.int .i64 (p:Nat)][k]? = some v→w.cell? ⟨b,0+k,none⟩=some v)(hp:p<c.Ah.xs.length)(hm:c.Aa.xs.length≤1024)(hq:∀ p,p<c.Aa.xs.length→(gd c.Aa.xs p).Ar.xs.length≤1024):Calls Tryd.prog 70 #[.pointer (some ⟨bc,0,none⟩),.pointer (some ⟨b,0,none⟩)] w fun e w'=>e = .returned (.agg (Am.arr (Ez c p)))∧CZ (fun _=>False) w w':=by
 obtain⟨z,hz⟩:∃ z,z=w.heap.size:=⟨_,rfl⟩
 refine Cb (args:=[pt bc,pt b]) 6 ⟨w,z,[(Ak w)]⟩ Tryd.func70 rfl (by kernel_rfl) (by kernel_rfl) (ES hz) ?_
 have hpl:=hc.Aa.1.len;have hpc:=hc.Dk.1.len;have hpch:=hc.Ah.1.len
 refine Ee [0,1] [(0,pt bc),(1,pt b)] ?_
 refine q_c 6 2 [] [[o0],[(ol 0 (Aj.arr c)),(oa [.via 0 (Ac p)])]] [He w bc 0 (Aj.arr c),Old w b 0 (Ac p)] [(2,pt z),(3,.agg (Aj.arr c)),(4,Ac p)] ⟨w,z+1,[(Ak w),(bk z #[i6 0,i6 0,i6 0] 111)]⟩ rfl ⟨EH hbc,Aw (hb 0 _ rfl),Af⟩ ?_
 refine BI 71 #[.agg (Aj.arr c),Ac p] (some 5) (.agg (Am.arr (Ez c p))) (fun w1 hw1=>Yh w1 (hL.ext (hw1.ext rfl)) c (hc.ext (hw1.ext rfl) (fun _ h=>h)) p hp hm hq) (fun n2 (hn3:z+1≤n2) => ?_)
 refine Gi 3 0 [] [[(an 3 1)]] [Qb z,Qb z,Qb z] [(2,pt z)] ⟨w,n2,[(Ak w),(bk z (Am.arr (Ez c p)) 111)]⟩ rfl ⟨rfl,rfl,rfl,Af⟩ ?_
 refine AO [.at 1,.at 1,.at 1] [Qb z,Qb z,Qb z] (.agg #[i6 ((Ez c p).e),i6 ((Ez c p).Ag.First),i6 ((Ez c p).Ag.Second)]) ⟨rfl,rfl,rfl,Af⟩ ?_
 intro w4 hw4
 exact⟨rfl,Bi hw4⟩
theorem q8_calls(w:World)(hL:Iq w)(c:Aj)(hc:Aj.ok Any w c)(bc:Nat)(hbc:∀ (k:Nat) (v:Value),(Aj.cells c)[k]? = some v→w.cell? ⟨bc,0+k,none⟩=some v)(b p:Nat)(hb:∀ (k:Nat) (v:Value),[Value.int .i64 (p:Nat)][k]? = some v→w.cell? ⟨b,0+k,none⟩=some v)(hp:p<c.Dk.xs.length)  : Calls Tryd.prog 72 #[.pointer (some ⟨bc,0,none⟩),.pointer (some ⟨b,0,none⟩)] w fun e w'=>e = .returned (.agg (Am.arr (Gq c p)))∧CZ (fun _=>False) w w':=by
 obtain⟨z,hz⟩:∃ z,z=w.heap.size:=⟨_,rfl⟩
 refine Cb (args:=[pt bc,pt b]) 6 ⟨w,z,[(Ak w)]⟩ Tryd.func72 rfl (by kernel_rfl) (by kernel_rfl) (ES hz) ?_
 have hpl:=hc.Aa.1.len;have hpc:=hc.Dk.1.len;have hpch:=hc.Ah.1.len
 refine Ee [0,1] [(0,pt bc),(1,pt b)] ?_
 refine q_c 6 2 [] [[o0],[(ol 0 (Aj.arr c)),(oa [.via 0 (Ac p)])]] [He w bc 0 (Aj.arr c),Old w b 0 (Ac p)] [(2,pt z),(3,.agg (Aj.arr c)),(4,Ac p)] ⟨w,z+1,[(Ak w),(bk z #[i6 0,i6 0,i6 0] 111)]⟩ rfl ⟨EH hbc,Aw (hb 0 _ rfl),Af⟩ ?_
 refine BI 73 #[.agg (Aj.arr c),Ac p] (some 5) (.agg (Am.arr (Gq c p))) (fun w1 hw1=>Zaj w1 (hL.ext (hw1.ext rfl)) c (hc.ext (hw1.ext rfl) (fun _ h=>h)) p hp) (fun n2 (hn3:z+1≤n2) => ?_)
 refine Gi 3 0 [] [[(an 3 1)]] [Qb z,Qb z,Qb z] [(2,pt z)] ⟨w,n2,[(Ak w),(bk z (Am.arr (Gq c p)) 111)]⟩ rfl ⟨rfl,rfl,rfl,Af⟩ ?_
 refine AO [.at 1,.at 1,.at 1] [Qb z,Qb z,Qb z] (.agg #[i6 ((Gq c p).e),i6 ((Gq c p).Ag.First),i6 ((Gq c p).Ag.Second)]) ⟨rfl,rfl,rfl,Af⟩ ?_
 intro w4 hw4
 exact⟨rfl,Bi hw4⟩
theorem q9_calls(w:World)(hL:Iq w)(c:Aj)(hc:Aj.ok Any w c)(bc:Nat)(hbc:∀ (k:Nat) (v:Value),(Aj.cells c)[k]? = some v→w.cell? ⟨bc,0+k,none⟩=some v)(hFr:1≤c.Frames∧c.Frames≤1024)(hpf:∀ q,q<c.Aa.xs.length→ED c q=D9):Calls Tryd.prog 74 #[.pointer (some ⟨bc,0,none⟩)] w fun e w'=>e = .returned (.agg (Am.arr (I4 c)))∧CZ (fun _=>False) w w':=by
 obtain⟨z,hz⟩:∃ z,z=w.heap.size:=⟨_,rfl⟩
 refine Cb (args:=[pt bc]) 6 ⟨w,z,[(Ak w)]⟩ Tryd.func74 rfl (by kernel_rfl) (by kernel_rfl) (ES hz) ?_
 have hpl:=hc.Aa.1.len;have hpc:=hc.Dk.1.len;have hpch:=hc.Ah.1.len
 refine Ee [0] [(0,pt bc)] ?_
 refine q_c 5 0 [] [[o0]] [] [(0,pt bc),(1,pt z)] ⟨w,z+1,[(Ak w),(bk z #[i6 0,i6 0,i6 0] 111)]⟩ rfl Af ?_
 refine Eo 4 [0,1] [(Ak w),(bk z #[i6 0,i6 0,i6 0] 111)] rfl rfl ?_
 refine JZ [.tk 0 (ol 0 (Aj.arr c)),.tk 2 (oa [.via 0 (i6 (-1)),.via 0 (i6 (-1))]),.cl 1 (.bool (I8 c)),.cl 3 (.agg (Am.arr (Ae (I8 c) 423 ⟨-1, -1⟩)))] [1,5] [(75,#[.agg (Aj.arr c)],.bool (I8 c)),(62,#[.bool (I8 c),i6 423,.agg #[i6 (-1),i6 (-1)]],.agg (Am.arr (Ae (I8 c) 423 ⟨-1, -1⟩)))] (DC 4 1) [He w bc 0 (Aj.arr c),Old w 1 0 (i6 (-1)),Old w 1 1 (i6 (-1))] [(1,pt z),(5,.agg (Am.arr (Ae (I8 c) 423 ⟨-1, -1⟩)))] [0,1] ⟨EH hbc,Aw (hL.1 0 _ rfl),Aw (hL.1 1 _ rfl),Af⟩ ⟨fun w1 hw1=>Y6 w1 (hL.ext (hw1.ext rfl)) c (hc.ext (hw1.ext rfl) (fun _ h=>h)) hFr hpf,fun w2 hw2=>AY w2 (hL.ext (hw2.ext rfl)) (I8 c) 423 (-1) (-1),Af⟩ (fun n3 hn4 => ?_)
 replace hn4:z+1≤n3:=hn4
 refine Bv 4 ?_
 refine BC (an 3 1) [1] [Qb z,Qb z,Qb z] [(1,pt z)] ⟨w,n3,[(Ak w),(.blk z (.cells (Am.arr (Ae (I8 c) 423 ⟨-1, -1⟩)) 111 (0,0)) true)]⟩ [] ⟨rfl,rfl,rfl,Af⟩ (.inl rfl) ?_
 refine DV 5 [0,1] [(Ak w),(.blk z (.cells (Am.arr (Ae (I8 c) 423 ⟨-1, -1⟩)) 111 (0,0)) true)] rfl rfl ?_
 refine Dl ?_
 refine BR [1] [(1,pt z)] ?_
 refine IV <| KP <| AO [.at 1,.at 1,.at 1] [Qb z,Qb z,Qb z] (.agg #[i6 ((Ae (I8 c) 423 ⟨-1, -1⟩).e),i6 ((Ae (I8 c) 423 ⟨-1, -1⟩).Ag.First),i6 ((Ae (I8 c) 423 ⟨-1, -1⟩).Ag.Second)]) ⟨rfl,rfl,rfl,Af⟩ ?_
 intro w5 hw5
 exact⟨congrArg (fun t=>Ending.returned (Value.agg (Am.arr t))) (show(Ae (I8 c) 423 ⟨-1, -1⟩)=I4 c from by unfold I4;first | rfl | rw[decide_eq_false (by omega)] | rw[decide_eq_true (by omega)]),Bi hw5⟩
abbrev fn1(f bc:Nat):Value:= .func (.func f) #[] #[.pointer (some ⟨bc,0,none⟩)]
abbrev fn2(f bc b:Nat):Value:= .func (.func f) #[] #[.pointer (some ⟨bc,0,none⟩),.pointer (some ⟨b,0,none⟩)]
def FQ(bc:Nat):List Value:=[fn1 61 bc,fn1 64 bc,fn1 65 bc,fn1 66 bc,fn1 67 bc]
def clo(f bc:Nat)(B:List Nat):List Value:=B.map fun b=>fn2 f bc b
theorem VH{f bc b:Nat}{B:List Nat}:clo f bc (B++[b])=clo f bc B++[.func (.func f) #[] #[.pointer (some ⟨bc,0,none⟩),.pointer (some ⟨b,0,none⟩)]]:=List.map_append
theorem J4{f bc:Nat}{B:List Nat}:(clo f bc B).length=B.length:=List.length_map _
def asks(bc:Nat)(B1 B2 B3:List Nat):List Value:=FQ bc++clo 68 bc B1++clo 70 bc B2++clo 72 bc B3++[.func (.func 74) #[] #[.pointer (some ⟨bc,0,none⟩)]]
def answers(c:Aj):List Am:=[GN c,whole2 c,GK c,GM c,Gx c]++(List.range c.Aa.xs.length).map (ED c)++(List.range c.Ah.xs.length).map (Ez c)++(List.range c.Dk.xs.length).map (Gq c)++[I4 c]
def Wv(c:Aj):Am:=Ba (answers c)
theorem Zg{bc:Nat}{B1 B2 B3:List Nat}:(asks bc B1 B2 B3).length=6+B1.length+B2.length+B3.length:=by
 simp[asks,FQ,clo];omega
theorem Jm{c:Aj}:(answers c).length=6+c.Aa.xs.length+c.Ah.xs.length+c.Dk.xs.length:=by
 simp[answers];omega
theorem MF{α:Type}[Inhabited α]{a b:List α}{k:Nat}(h:k<a.length):gd (a++b) k=gd a k:=by
 rw[F8 (by rw[List.length_append];omega),F8 h,List.getElem_append_left h]
theorem UB{α:Type}[Inhabited α]{a b:List α}{k n:Nat}(h:n=a.length+k)(hk:k<b.length):gd (a++b) n=gd b k:=by
 subst h
 rw[F8 (by rw[List.length_append];omega),F8 hk,List.getElem_append_right (by omega)]
 congr 1;omega
theorem WX{β:Type}[Inhabited β]{f:Nat→β}{n i:Nat}(h:i<n):gd ((List.range n).map f) i=f i:=by
 rw[F8 (by simpa using h)];simp
theorem Y4{f bc b:Nat}{B:List Nat}{i:Nat}(h:B[i]? = some b):gd (clo f bc B) i=fn2 f bc b:=by
 obtain⟨hi,e⟩:=List.getElem?_eq_some_iff.1 h
 rw[F8 (by rw[J4];exact hi)]
 simp[clo,e]
section
variable {c:Aj}{bc:Nat}{B1 B2 B3:List Nat}
theorem ask_lo{k:Nat}(hk:k<5):gd (asks bc B1 B2 B3) k=gd (FQ bc) k:=by
 unfold asks
 have h5:(FQ bc).length=5:=rfl
 rw[MF (by simp only[List.length_append];omega),MF (by simp only[List.length_append];omega),MF (by simp only[List.length_append];omega),MF (by omega)]
theorem YH{k:Nat}(hk:k<5):gd (answers c) k=gd [GN c,whole2 c,GK c,GM c,Gx c] k:=by
 unfold answers
 rw[MF (by simp;omega),MF (by simp;omega),MF (by simp;omega),MF (by simpa using hk)]
theorem ans_p{p:Nat}(hp:p<c.Aa.xs.length):gd (answers c) (5+p)=ED c p:=by
 unfold answers
 rw[MF (by simp;omega),MF (by simp;omega),MF (by simp;omega),UB (k:=p) (by simp) (by simpa using hp),WX hp]
theorem ans_h{p:Nat}(hp:p<c.Ah.xs.length):gd (answers c) (5+c.Aa.xs.length+p)=Ez c p:=by
 unfold answers
 rw[MF (by simp;omega),MF (by simp;omega),UB (k:=p) (by simp;omega) (by simpa using hp),WX hp]
theorem ans_k{p:Nat}(hp:p<c.Dk.xs.length):gd (answers c) (5+c.Aa.xs.length+c.Ah.xs.length+p)=Gq c p:=by
 unfold answers
 rw[MF (by simp;omega),UB (k:=p) (by simp;omega) (by simpa using hp),WX hp]
theorem ans_e:gd (answers c) (5+c.Aa.xs.length+c.Ah.xs.length+c.Dk.xs.length)=I4 c:=by
 unfold answers
 rw[UB (k:=0) (by simp;omega) (by simp)];rfl
theorem kinds(h1:B1.length=c.Aa.xs.length)(h2:B2.length=c.Ah.xs.length)(h3:B3.length=c.Dk.xs.length){k:Nat}(hk:k<(asks bc B1 B2 B3).length) :
   (k=0∧gd (asks bc B1 B2 B3) k = .func (.func 61) #[] #[.pointer (some ⟨bc,0,none⟩)]∧gd (answers c) k=GN c)∨(k=1∧gd (asks bc B1 B2 B3) k = .func (.func 64) #[] #[.pointer (some ⟨bc,0,none⟩)]∧gd (answers c) k=whole2 c)∨(k=2∧gd (asks bc B1 B2 B3) k = .func (.func 65) #[] #[.pointer (some ⟨bc,0,none⟩)]∧gd (answers c) k=GK c) ∨
   (k=3∧gd (asks bc B1 B2 B3) k = .func (.func 66) #[] #[.pointer (some ⟨bc,0,none⟩)]∧gd (answers c) k=GM c)∨(k=4∧gd (asks bc B1 B2 B3) k = .func (.func 67) #[] #[.pointer (some ⟨bc,0,none⟩)]∧gd (answers c) k=Gx c) ∨
   (∃ p b,k=5+p∧p<c.Aa.xs.length∧B1[p]? = some b∧gd (asks bc B1 B2 B3) k = .func (.func 68) #[] #[.pointer (some ⟨bc,0,none⟩),.pointer (some ⟨b,0,none⟩)]∧gd (answers c) k=ED c p) ∨
   (∃ p b,k=5+c.Aa.xs.length+p∧p<c.Ah.xs.length∧B2[p]? = some b∧gd (asks bc B1 B2 B3) k = .func (.func 70) #[] #[.pointer (some ⟨bc,0,none⟩),.pointer (some ⟨b,0,none⟩)]∧gd (answers c) k=Ez c p) ∨
   (∃ p b,k=5+c.Aa.xs.length+c.Ah.xs.length+p∧p<c.Dk.xs.length∧B3[p]? = some b∧gd (asks bc B1 B2 B3) k = .func (.func 72) #[] #[.pointer (some ⟨bc,0,none⟩),.pointer (some ⟨b,0,none⟩)]∧gd (answers c) k=Gq c p) ∨
   (k=5+c.Aa.xs.length+c.Ah.xs.length+c.Dk.xs.length∧gd (asks bc B1 B2 B3) k = .func (.func 74) #[] #[.pointer (some ⟨bc,0,none⟩)]∧gd (answers c) k=I4 c):=by
 rw[Zg]at hk
 have l5:(FQ bc).length=5:=rfl
 have hB:∀ (B:List Nat) (i:Nat),i<B.length→∃ b,B[i]? = some b:=fun B i hi=>⟨B[i],by simp[hi]⟩
 rcases Nat.lt_or_ge k 5 with g | g
 · rw[ask_lo g,YH g]
   rcases(by omega:k=0∨k=1∨k=2∨k=3∨k=4)with rfl | rfl | rfl | rfl | rfl
   · exact .inl ⟨rfl,rfl,rfl⟩
   · exact .inr (.inl ⟨rfl,rfl,rfl⟩)
   · exact .inr (.inr (.inl ⟨rfl,rfl,rfl⟩))
   · exact .inr (.inr (.inr (.inl ⟨rfl,rfl,rfl⟩)))
   · exact .inr (.inr (.inr (.inr (.inl ⟨rfl,rfl,rfl⟩))))
 refine .inr (.inr (.inr (.inr (.inr ?_))))
 rcases Nat.lt_or_ge k (5+c.Aa.xs.length)with g1 | g1
 · obtain⟨p,rfl⟩:∃ p,k=5+p:=⟨k - 5,by omega⟩
   obtain⟨b,hb⟩:=hB B1 p (by omega)
   refine .inl ⟨p,b,rfl,by omega,hb, ?_,ans_p (by omega)⟩
   unfold asks
   rw[MF (by simp only[List.length_append,J4];omega),MF (by simp only[List.length_append,J4];omega),MF (by simp only[List.length_append,J4];omega),UB (k:=p) (by omega) (by rw[J4];omega),Y4 hb]
 rcases Nat.lt_or_ge k (5+c.Aa.xs.length+c.Ah.xs.length)with g2 | g2
 · obtain⟨p,rfl⟩:∃ p,k=5+c.Aa.xs.length+p:=⟨k - (5+c.Aa.xs.length),by omega⟩
   obtain⟨b,hb⟩:=hB B2 p (by omega)
   refine .inr (.inl ⟨p,b,rfl,by omega,hb, ?_,ans_h (by omega)⟩)
   unfold asks
   rw[MF (by simp only[List.length_append,J4];omega),MF (by simp only[List.length_append,J4];omega),UB (k:=p) (by simp only[List.length_append,J4];omega) (by rw[J4];omega),Y4 hb]
 rcases Nat.lt_or_ge k (5+c.Aa.xs.length+c.Ah.xs.length+c.Dk.xs.length)with g3 | g3
 · obtain⟨p,rfl⟩:∃ p,k=5+c.Aa.xs.length+c.Ah.xs.length+p:=⟨k - (5+c.Aa.xs.length+c.Ah.xs.length),by omega⟩
   obtain⟨b,hb⟩:=hB B3 p (by omega)
   refine .inr (.inr (.inl ⟨p,b,rfl,by omega,hb, ?_,ans_k (by omega)⟩))
   unfold asks
   rw[MF (by simp only[List.length_append,J4];omega),UB (k:=p) (by simp only[List.length_append,J4];omega) (by rw[J4];omega),Y4 hb]
 · obtain rfl:k=5+c.Aa.xs.length+c.Ah.xs.length+c.Dk.xs.length:=by omega
   refine .inr (.inr (.inr ⟨rfl, ?_,ans_e⟩))
   unfold asks
   rw[UB (k:=0) (by simp only[List.length_append,J4];omega) (by simp)];rfl
variable {n:Nat}(hf:∀ i,i<n→gd (answers c) i=D9)
theorem XZ(hf:∀ i,i<n→gd (answers c) i=D9)(hn:1≤n):1≤c.Frames∧c.Frames≤1024:=by
 have h:=hf 0 (by omega)
 rw[YH (by decide)]at h
 exact H8 ((TW (by decide)).1 (show Ae (win c.Frames 1 1024) 400 ⟨-1, -1⟩=D9 from h))
theorem parts_of(hf:∀ i,i<n→gd (answers c) i=D9)(hn:4≤n):c.Aa.xs.length≤1024:=by
 have h:=hf 3 (by omega)
 rw[YH (by decide)]at h
 have:=H8 ((TW (by decide)).1 (show Ae (win (c.Aa.xs.length:Int) 1 8) 403 ⟨-1, -1⟩=D9 from h))
 omega
theorem Xt(hf:∀ i,i<n→gd (answers c) i=D9){q:Nat}(hq:q<c.Aa.xs.length)(hn:5+q<n):ED c q=D9:=by
 rw[←ans_p hq];exact hf _ hn
theorem partQ_E{c:Aj}{p:Nat}(h:ED c p=D9):Fq (Ba (Jl c p)) (LP c p) (Gz c p).Ar.xs.length=D9:=by
 unfold ED at h
 rw[if_pos (TP (by unfold ED;exact h))]at h
 exact h
theorem ports_of(hf:∀ i,i<n→gd (answers c) i=D9)(hn:5+c.Aa.xs.length≤n):∀ p,p<c.Aa.xs.length→(gd c.Aa.xs p).Ar.xs.length≤1024:=by
 intro p hp
 have h:=(U1 (partQ_E (Xt hf hp (by omega)))).1
 have h2:=Xk h _ (List.mem_cons_of_mem _ (List.mem_cons_self ..))
 rw[TW (by decide)]at h2
 have:=of_decide_eq_true h2
 simp only[Gz]at this
 omega
end
end Go.Proofs.YtjdmhijaanmccaaDoor.Ad
namespace Go.Proofs.YtjdmhijaanmccaaDoor.Eng
open Go Go.Proofs.YtjdmhijaanmccaaDoor.Mem
set_option linter.unusedSimpArgs false
set_option linter.unusedVariables false
def caps(t:TypeId)(B:List Nat):Ch:= .inv (fun b=>b∈B) (fun w=>∀ (i b:Nat),B[i]? = some b→w.heap[b]? = some (.cells #[.int .i64 (i:Nat)] t (0,0))) true
theorem VA(t:TypeId)(B:List Nat):(caps t B).stable:=fun w w' h hw i b hb=>(h b (List.mem_of_getElem? hb)).trans (hw i b hb)
theorem TM{A:AW}{w:World}(h:Sat A w){i j b:Nat}{t:TypeId}{B:List Nat}(hb:B[j]? = some b)(hi:A.σ[i]? = some (caps t B):=by rfl):∀ (k:Nat) (v:Value),[Value.int .i64 (j:Nat)][k]? = some v→w.cell? ⟨b,0+k,none⟩=some v:=by
 have h1:w.heap[b]? = some (.cells #[.int .i64 (j:Nat)] t (0,0)):=h.at hi j b hb
 intro k v hk
 match k,hk with
 | 0,hk=>cases hk;simp[World.cell?,h1]
theorem Lu{A:AW}{w:World}(h:Sat A w){i b:Nat}{cs:Array Value}{t:TypeId}{fr:Nat×Nat}{rw':Bool}{l:List Value}(hi:A.σ[i]? = some (.blk b (.cells cs t fr) rw'):=by rfl)(hl:l=cs.toList:=by rfl):∀ (k:Nat) (v:Value),l[k]? = some v→w.cell? ⟨b,0+k,none⟩=some v:=by
 have h1:w.heap[b]? = some (.cells cs t fr):=h.at hi
 intro k v hk
 subst hl
 simp[World.cell?,h1]at hk ⊢
 exact hk
theorem Sat.caps{A:AW}{w:World}(h:Sat A w)(i j:Nat)(is:List Nat){t:TypeId}{B:List Nat}{b n:Nat}{kept:List Ch}(hn:B.length=n)(hi:A.σ[i]? = some (caps t B))(hj:A.σ[j]? = some (.blk b (.cells #[.int .i64 (n:Nat)] t (0,0)) true))(hnd:nodupB is=true)(hni:is.contains i=false)(hnj:is.contains j=false)(hp:picks is A.σ=some kept):Sat { A with σ:=kept++[Eng.caps t (B++[b])] } w:=by
 have:=h.Zag is hnd hp (CZ.refl (fun _=>False) w) (fun _ _ _ _ x=>x) [Eng.caps t (B++[b])] (by
  intro d hd
  simp only[List.mem_singleton]at hd
  subst hd
  refine⟨fun k b' hb => ?_,VA _ _, ?_⟩
  ·rcases Nat.lt_trichotomy k B.length with hk | hk | hk
   ·rw[List.getElem?_append_left hk]at hb
    exact h.at hi k b' hb
   ·subst hk
    rw[List.getElem?_append_right (Nat.le_refl _)]at hb
    simp at hb
    subst hb;subst hn
    exact h.at hj
   rw[List.getElem?_eq_none (by simp;omega)]at hb;cases hb
  ·intro b' hb'
   rw[h.size]
   rcases List.mem_append.1 hb' with hb' | hb'
   ·exact h.bnd _ (List.mem_of_getElem? hi) b' hb'
   exact h.bnd _ (List.mem_of_getElem? hj) b' (List.mem_singleton.1 hb')) (by simp) (by
  intro d hd d' hd' _ b' hb
  simp only[List.mem_singleton]at hd'
  subst hd'
  obtain⟨q,hq,hqs⟩:=LG hp d hd
  intro hb'
  rcases List.mem_append.1 hb' with hb' | hb'
  ·exact KE h.LY (i:=i) (j:=q) (by rw[List.getElem?_map,hi];rfl) (by rw[List.getElem?_map,hqs];rfl) (fun e=>by subst e;simp[hq]at hni) rfl b' hb' hb
  exact KE h.LY (i:=j) (j:=q) (by rw[List.getElem?_map,hj];rfl) (by rw[List.getElem?_map,hqs];rfl) (fun e=>by subst e;simp[hq]at hnj) rfl b' (List.mem_singleton.1 hb') hb)
 rw[h.size]at this
 exact this
section
variable {P:Program}{N:Nat}{env:Env}{ds:List Deferred}{A:AW}{s:List Kt}{Q:Exit→Act→World→Prop}{c:Code}{x:Exit}
theorem XB(t:TypeId)(K:G P N env ds { A with σ:=A.σ++[caps t []] } c s Q):G P N env ds A c s Q :=
 fun a w hst=>K a w ⟨hst.sz,hst.df,hst.kn,hst.mem.more _ (fun i b h=>by simp at h) (VA _ _) (fun b h=>by cases h)⟩
theorem Y0(i j:Nat)(is:List Nat)(t:TypeId)(B:List Nat)(b n:Nat)(kept:List Ch)(hn:B.length=n)(K:E P N env ds { A with σ:=kept++[caps t (B++[b])] } x s Q)
   (hi:A.σ[i]? = some (caps t B):=by rfl) (hj:A.σ[j]? = some (.blk b (.cells #[.int .i64 (n:Nat)] t (0,0)) true):=by rfl) (hnd:nodupB is=true:=by rfl) (hni:is.contains i=false:=by rfl) (hnj:is.contains j=false:=by rfl) (hp:picks is A.σ=some kept:=by rfl):E P N env ds A x s Q :=
 fun a' w hst=>K a' w ⟨hst.sz,hst.df,hst.kn,hst.mem.caps i j is hn hi hj hnd hni hnj hp⟩
end
end Go.Proofs.YtjdmhijaanmccaaDoor.Eng
namespace Go.Proofs.YtjdmhijaanmccaaDoor.Ad
open Go Go.Proofs.YtjdmhijaanmccaaDoor.Eng Go.Proofs.YtjdmhijaanmccaaDoor.Mem Go.Proofs.YtjdmhijaanmccaaDoor.Ly
set_option linter.unusedSimpArgs false
set_option linter.unusedVariables false
set_option maxRecDepth 100000
section
variable (n10 z:Nat)(n17 n3:Nat)(c:Aj)(p n75:Nat)(n83 n91:Nat)(n35 n43:Nat)(n51 n59:Nat)(n67 n99:Nat)(ax19:Option Addr)(B1 B2 B3:List Nat)(cp20:Nat)(ax12:Option Addr)(cp13:Nat)(ax5:Option Addr)(cp6:Nat)(aL3:Option Addr)(cL3:Nat)(aL2:Option Addr)(cL2:Nat)(aL1:Option Addr)(cL1 b31:Nat)(cR b39:Nat)(b47 b55:Nat)(b63 b71:Nat)(b79 b87:Nat)(b95 k:Nat)
abbrev Wi:=bk (n10+1) #[.func (.func 70) #[] #[pt (z+2),pt n10]] 109
abbrev Y8:=bk (n17+1) #[.func (.func 72) #[] #[pt (z+2),pt n17]] 109
abbrev Wl:=bk (n3+1) #[.func (.func 68) #[] #[pt (z+2),pt n3]] 109
abbrev Za1:=bk (z+1) #[i6 ((ED c p).Ag.First),i6 ((ED c p).Ag.Second)] 38
abbrev Zba:=bk (z+1) #[i6 ((Ez c p).Ag.First),i6 ((Ez c p).Ag.Second)] 38
abbrev ZaD:=bk (z+1) #[i6 ((Gq c p).Ag.First),i6 ((Gq c p).Ag.Second)] 38
abbrev ZaT:=bk (z+1) #[i6 ((GN c).Ag.First),i6 ((GN c).Ag.Second)] 38
abbrev ZaX:=bk (z+1) #[i6 ((whole2 c).Ag.First),i6 ((whole2 c).Ag.Second)] 38
abbrev ZaO:=bk (z+1) #[i6 ((GK c).Ag.First),i6 ((GK c).Ag.Second)] 38
abbrev qdvx_9:=bk (z+1) #[i6 ((GM c).Ag.First),i6 ((GM c).Ag.Second)] 38
abbrev ZN:=bk (z+1) #[i6 ((Gx c).Ag.First),i6 ((Gx c).Ag.Second)] 38
abbrev Zz:=bk (z+1) #[i6 ((I4 c).Ag.First),i6 ((I4 c).Ag.Second)] 38
abbrev DR:=bk n17 #[.func (.func 74) #[] #[pt (z+2)]] 109
abbrev D8:=bk (z+1) #[i6 0,i6 0] 38
abbrev Vd:=bk n75 (Am.arr (ED c p)) 111
abbrev Vl:=bk n83 (Am.arr (Ez c p)) 111
abbrev UO:=bk n91 (Am.arr (Gq c p)) 111
abbrev UW:=bk n35 (Am.arr (GN c)) 111
abbrev UZ:=bk n43 (Am.arr (whole2 c)) 111
abbrev Vt:=bk n51 (Am.arr (GK c)) 111
abbrev Vo:=bk n59 (Am.arr (GM c)) 111
abbrev UY:=bk n67 (Am.arr (Gx c)) 111
abbrev UH:=bk n99 (Am.arr (I4 c)) 111
abbrev CY:=bk (z+2) (Aj.arr c) 26
abbrev CO:=bk z (Aj.arr c) 26
abbrev Xz:=Ci z 109 1 (fun v:Value=>[v]) (.slice ax19 ((FQ (z+2)++clo 68 (z+2) B1++clo 70 (z+2) B2++clo 72 (z+2) B3++[(.func (.func 72) #[] #[pt (z+2),pt n17]:Value)]).length) cp20) (FQ (z+2)++clo 68 (z+2) B1++clo 70 (z+2) B2++clo 72 (z+2) B3++[(.func (.func 72) #[] #[pt (z+2),pt n17]:Value)])
abbrev Ve:=Ci z 109 1 (fun v:Value=>[v]) (.slice ax12 ((FQ (z+2)++clo 68 (z+2) B1++clo 70 (z+2) B2++[(.func (.func 70) #[] #[pt (z+2),pt n10]:Value)]).length) cp13) (FQ (z+2)++clo 68 (z+2) B1++clo 70 (z+2) B2++[(.func (.func 70) #[] #[pt (z+2),pt n10]:Value)])
abbrev Vz:=Ci z 109 1 (fun v:Value=>[v]) (.slice ax5 ((FQ (z+2)++clo 68 (z+2) B1++[(.func (.func 68) #[] #[pt (z+2),pt n3]:Value)]).length) cp6) (FQ (z+2)++clo 68 (z+2) B1++[(.func (.func 68) #[] #[pt (z+2),pt n3]:Value)])
abbrev QT:=Ci z 109 1 (fun v:Value=>[v]) (.slice aL3 ((FQ (z+2)++clo 68 (z+2) B1++clo 70 (z+2) B2++clo 72 (z+2) B3).length) cL3) (FQ (z+2)++clo 68 (z+2) B1++clo 70 (z+2) B2++clo 72 (z+2) B3)
abbrev PQ:=Ci z 109 1 (fun v:Value=>[v]) (.slice aL2 ((FQ (z+2)++clo 68 (z+2) B1++clo 70 (z+2) B2).length) cL2) (FQ (z+2)++clo 68 (z+2) B1++clo 70 (z+2) B2)
abbrev NW:=Ci z 109 1 (fun v:Value=>[v]) (.slice aL1 ((FQ (z+2)++clo 68 (z+2) B1).length) cL1) (FQ (z+2)++clo 68 (z+2) B1)
abbrev QX:=Ci z 109 1 (fun v:Value=>[v]) (.slice (some ⟨b31,0,none⟩) ((asks (z+2) B1 B2 B3).length) cR) (asks (z+2) B1 B2 B3)
abbrev Rj:=Ci z 109 1 (fun v:Value=>[v]) (.slice (some ⟨b39,0,none⟩) ((asks (z+2) B1 B2 B3).length) cR) (asks (z+2) B1 B2 B3)
abbrev QC:=Ci z 109 1 (fun v:Value=>[v]) (.slice (some ⟨b47,0,none⟩) ((asks (z+2) B1 B2 B3).length) cR) (asks (z+2) B1 B2 B3)
abbrev Rl:=Ci z 109 1 (fun v:Value=>[v]) (.slice (some ⟨b55,0,none⟩) ((asks (z+2) B1 B2 B3).length) cR) (asks (z+2) B1 B2 B3)
abbrev QS:=Ci z 109 1 (fun v:Value=>[v]) (.slice (some ⟨b63,0,none⟩) ((asks (z+2) B1 B2 B3).length) cR) (asks (z+2) B1 B2 B3)
abbrev QP:=Ci z 109 1 (fun v:Value=>[v]) (.slice (some ⟨b71,0,none⟩) ((asks (z+2) B1 B2 B3).length) cR) (asks (z+2) B1 B2 B3)
abbrev QN:=Ci z 109 1 (fun v:Value=>[v]) (.slice (some ⟨b79,0,none⟩) ((asks (z+2) B1 B2 B3).length) cR) (asks (z+2) B1 B2 B3)
abbrev QA:=Ci z 109 1 (fun v:Value=>[v]) (.slice (some ⟨b87,0,none⟩) ((asks (z+2) B1 B2 B3).length) cR) (asks (z+2) B1 B2 B3)
abbrev Rh:=Ci z 109 1 (fun v:Value=>[v]) (.slice (some ⟨b95,0,none⟩) ((asks (z+2) B1 B2 B3).length) cR) (asks (z+2) B1 B2 B3)
abbrev WY:Dc:=(3,.slice ax19 ((FQ (z+2)++clo 68 (z+2) B1++clo 70 (z+2) B2++clo 72 (z+2) B3++[(.func (.func 72) #[] #[pt (z+2),pt n17]:Value)]).length) cp20)
abbrev V8:Dc:=(3,.slice ax12 ((FQ (z+2)++clo 68 (z+2) B1++clo 70 (z+2) B2++[(.func (.func 70) #[] #[pt (z+2),pt n10]:Value)]).length) cp13)
abbrev UK:Dc:=(3,.slice ax5 ((FQ (z+2)++clo 68 (z+2) B1++[(.func (.func 68) #[] #[pt (z+2),pt n3]:Value)]).length) cp6)
abbrev Tm:Dc:=(8,.slice (some ⟨b31,0,none⟩) ((asks (z+2) B1 B2 B3).length) cR)
abbrev Tu:Dc:=(8,.slice (some ⟨b39,0,none⟩) ((asks (z+2) B1 B2 B3).length) cR)
abbrev SL:Dc:=(8,.slice (some ⟨b47,0,none⟩) ((asks (z+2) B1 B2 B3).length) cR)
abbrev SA:Dc:=(8,.slice (some ⟨b55,0,none⟩) ((asks (z+2) B1 B2 B3).length) cR)
abbrev SK:Dc:=(8,.slice (some ⟨b63,0,none⟩) ((asks (z+2) B1 B2 B3).length) cR)
abbrev SI:Dc:=(8,.slice (some ⟨b71,0,none⟩) ((asks (z+2) B1 B2 B3).length) cR)
abbrev SG:Dc:=(8,.slice (some ⟨b79,0,none⟩) ((asks (z+2) B1 B2 B3).length) cR)
abbrev TI:Dc:=(8,.slice (some ⟨b87,0,none⟩) ((asks (z+2) B1 B2 B3).length) cR)
abbrev TJ:Dc:=(8,.slice (some ⟨b95,0,none⟩) ((asks (z+2) B1 B2 B3).length) cR)
abbrev DT:=(9,i6 (((asks (z+2) B1 B2 B3).length:Nat):Int))
abbrev Lc:=(15,Ac c.Aa.xs.length)
abbrev Ny:=(26,Ac c.Ah.xs.length)
abbrev OW:=(37,Ac c.Dk.xs.length)
abbrev C9:=(3,pt (z+1))
abbrev GH:=(1,pt (z+2))
abbrev IK:=(10,i6 ((k+1:Nat):Int))
end
theorem Zn(w:World)(hL:Iq w)(c:Aj)(hc:Aj.ok Any w c)(hS:c.Aa.xs.length+c.Ah.xs.length+c.Dk.xs.length≤15000000000000):Calls Tryd.prog 17 #[.agg (Aj.arr c)] w fun e w'=>e = .returned (.tuple #[.int .i64 (Wv c).e,.agg #[.int .i64 (Wv c).Ag.First,.int .i64 (Wv c).Ag.Second]])∧CZ (fun _=>False) w w':=by
 obtain⟨z,hz⟩:∃ z,z=w.heap.size:=⟨_,rfl⟩
 refine Cb (args:=[.agg (Aj.arr c)]) 25 ⟨w,z,[(Ak w)]⟩ Tryd.func17 rfl (by kernel_rfl) (by kernel_rfl) (ES hz) ?_
 have hpl:=hc.Aa.1.len;have hpc:=hc.Dk.1.len;have hpch:=hc.Ah.1.len
 refine Ee [0] [(0,.agg (Aj.arr c))] ?_
 refine q_c 7 1 [] [[o0,o0,o0],[(an 7 1)]] [Qb z,Qb z,Qb z,Qb z,Qb z,Qb z,Qb z] [(C9 z),(7,.agg (Aj.arr c))] ⟨w,z+2,[(Ak w),(CO z c),(D8 z)]⟩ rfl ⟨rfl,rfl,rfl,rfl,rfl,rfl,rfl,Af⟩ ?_
 refine l_call [] [] 36 #[.agg (Aj.arr c)] (some 8) Af ?_
 intro w1 hw1
 refine Cb (args:=[.agg (Aj.arr c)]) 50 ⟨w,z+2,[(Ak w),(CO z c),(D8 z)]⟩ Tryd.func36 rfl (by kernel_rfl) (by kernel_rfl) hw1 ?_
 refine q_c 14 0 [] [[o0,o0],[o0,o0,o0,o0,o0,o0,o0],[o0,(a1 3),o0,o0]] [Qb (z+2)] [(GH z),(3,.slice (some ⟨z+3,0,none⟩) 5 5),(Lc c),(16,i6 0)] ⟨w,z+4,[(Ak w),(CO z c),(D8 z),(CY z c),(bk (z+3) #[.func (.func 61) #[] #[pt (z+2)],.func (.func 64) #[] #[pt (z+2)],.func (.func 65) #[] #[pt (z+2)],.func (.func 66) #[] #[pt (z+2)],.func (.func 67) #[] #[pt (z+2)]] 109)]⟩ rfl ⟨rfl,Af⟩ ?_
 refine YC 4 (z+3) z 109 1 (fun v:Value=>[v]) (FQ (z+2)) #[.func (.func 61) #[] #[pt (z+2)],.func (.func 64) #[] #[pt (z+2)],.func (.func 65) #[] #[pt (z+2)],.func (.func 66) #[] #[pt (z+2)],.func (.func 67) #[] #[pt (z+2)]] (by omega) (?_:G _ _ _ _ ⟨w,z+4,[(Ak w),(CO z c),(D8 z),(CY z c),(Ci z 109 1 (fun v:Value=>[v]) (.slice (some ⟨z+3,0,none⟩) 5 5) (FQ (z+2)))]⟩ _ _ _)
 refine XB 3 ?_
 refine DY (fun m a w'=>∃ (n3:Nat) (p0:Nat) (B1:List Nat) (aL1:Option Addr) (cL1:Nat),m=c.Aa.xs.length - p0∧z+4≤n3∧(p0≤c.Aa.xs.length)∧(B1.length=p0)∧St 50 [(GH z),(3,.slice aL1 ((FQ (z+2)++clo 68 (z+2) B1).length) cL1),(Lc c),(16,Ac p0)] [] ⟨w,n3,[(Ak w),(CO z c),(D8 z),(CY z c),(NW z B1 aL1 cL1),(caps 3 B1)]⟩ a w') (c.Aa.xs.length - 0) ?_ ?_
 ·intro a w' hs;exact⟨(z+4),0,([]),(some ⟨z+3,0,none⟩),5,rfl,Nat.le_refl _,Nat.zero_le _,rfl,(by(try dsimp only[D8,CY,CO,NW,Lc,C9,GH]at hs ⊢);rw[show clo 68 (z+2) []=[]from rfl,List.append_nil];exact hs)⟩
 rintro m a w' ⟨n3,p0,B1,aL1,cL1,rfl,hn2,hkp0,hB1,hs⟩
 refine(?_:G Tryd.prog 50 [(GH z),(3,.slice aL1 ((FQ (z+2)++clo 68 (z+2) B1).length) cL1),(Lc c),(16,Ac p0)] [] ⟨w,n3,[(Ak w),(CO z c),(D8 z),(CY z c),(NW z B1 aL1 cL1),(caps 3 B1)]⟩ _ _ _) a w' hs
 clear hs a w'
 have hxl1:(FQ (z+2)++clo 68 (z+2) B1).length=5+p0:=by simp only[List.length_append,J4,hB1];rfl
 refine DW ?_
 by_cases h4:(p0:Int)<(c.Aa.xs.length:Int)
 ·refine q_c 14 3 [1] [[oT],[o0,o0,(a1 6)],[o0,o0,o0]] [BT ((p0:Int)<(c.Aa.xs.length:Int)),Qb n3] [(GH z),(Lc c),(16,Ac p0),(19,.slice aL1 ((FQ (z+2)++clo 68 (z+2) B1).length) cL1),(21,.slice (some ⟨n3+1,0,none⟩) 1 1)] ⟨w,n3+2,[(Ak w),(CO z c),(D8 z),(CY z c),(NW z B1 aL1 cL1),(caps 3 B1),(bk n3 #[(Ac p0)] 3),(Wl z n3)]⟩ rfl ⟨bt,rfl,Af⟩ ?_
  refine Vx z 4 7 (FQ (z+2)++clo 68 (z+2) B1) [(.func (.func 68) #[] #[pt (z+2),pt n3]:Value)] (fun v:Value=>[v]) 109 1 8 (.slice aL1 ((FQ (z+2)++clo 68 (z+2) B1).length) cL1) (n3+1) 1 1 #[.func (.func 68) #[] #[pt (z+2),pt n3]] 109 (0,0) true (some 22) (by simp only[List.length_cons,List.length_nil];omega) (by simp only[List.length_cons,List.length_nil];omega) (show z≤n3+2 by omega) (fun ax5 cp6 n7 (hn8:n3+2≤n7) => ?_)
  refine Cc 5 0 [] [[o0],[(ov (i6 ((p0+1:Nat):Int))),o0]] [Wr ((p0:Int)+1) (((p0+1:Nat):Int))] [(GH z),(Lc c),(16,i6 ((p0+1:Nat):Int)),(UK z n3 B1 ax5 cp6)] rfl ⟨CB,Af⟩ ?_
  refine Y0 5 6 [0,1,2,3,4,7] 3 B1 n3 p0 [(Ak w),(CO z c),(D8 z),(CY z c),(Vz z n3 B1 ax5 cp6),(Wl z n3)] hB1 ?_
  refine BX [0,1,2,3,4,6] [(Ak w),(CO z c),(D8 z),(CY z c),(Vz z n3 B1 ax5 cp6),(caps 3 (B1++[n3]))] rfl rfl ?_
  refine BR [1,3,15,16] [(GH z),(UK z n3 B1 ax5 cp6),(Lc c),(16,i6 ((p0+1:Nat):Int))] ?_
  refine Cf (fun a w' hs=>⟨c.Aa.xs.length - (p0+1),by omega,n7,(p0+1),(B1++[n3]),ax5,cp6,rfl,by omega,by omega,(by rw[List.length_append,hB1];rfl),(by(try dsimp only[Wl,D8,CY,CO,Vz,NW,UK,Lc,GH]at hs ⊢);rw[VH,←List.append_assoc];exact hs)⟩)
 refine Az 16 0 [0] [[oF],[o0,(a1 3),o0,o0]] [BF ((p0:Int)<(c.Aa.xs.length:Int)),Qb (z+2)] [(GH z),(3,.slice aL1 ((FQ (z+2)++clo 68 (z+2) B1).length) cL1),(Ny c),(27,i6 0)] rfl ⟨bf,rfl,Af⟩ ?_
 refine XB 3 ?_
 refine DY (fun m a w'=>∃ (n10:Nat) (h0:Nat) (B2:List Nat) (aL2:Option Addr) (cL2:Nat),m=c.Ah.xs.length - h0∧n3≤n10∧(h0≤c.Ah.xs.length)∧(B2.length=h0)∧St 50 [(GH z),(3,.slice aL2 ((FQ (z+2)++clo 68 (z+2) B1++clo 70 (z+2) B2).length) cL2),(Ny c),(27,Ac h0)] [] ⟨w,n10,[(Ak w),(CO z c),(D8 z),(CY z c),(PQ z B1 B2 aL2 cL2),(caps 3 B1),(caps 3 B2)]⟩ a w') (c.Ah.xs.length - 0) ?_ ?_
 ·intro a w' hs;exact⟨n3,0,([]),aL1,cL1,rfl,Nat.le_refl _,Nat.zero_le _,rfl,(by(try dsimp only[Wl,D8,CY,CO,Vz,PQ,NW,UK,Lc,Ny,GH]at hs ⊢);rw[show clo 70 (z+2) []=[]from rfl,List.append_nil];exact hs)⟩
 rintro m a w' ⟨n10,h0,B2,aL2,cL2,rfl,hn9,hkh0,hB2,hs⟩
 refine(?_:G Tryd.prog 50 [(GH z),(3,.slice aL2 ((FQ (z+2)++clo 68 (z+2) B1++clo 70 (z+2) B2).length) cL2),(Ny c),(27,Ac h0)] [] ⟨w,n10,[(Ak w),(CO z c),(D8 z),(CY z c),(PQ z B1 B2 aL2 cL2),(caps 3 B1),(caps 3 B2)]⟩ _ _ _) a w' hs
 clear hs a w'
 have hxl2:(FQ (z+2)++clo 68 (z+2) B1++clo 70 (z+2) B2).length=5+B1.length+h0:=by simp only[List.length_append,J4,hB2];rfl
 refine DW ?_
 by_cases h11:(h0:Int)<(c.Ah.xs.length:Int)
 ·refine q_c 14 3 [1] [[oT],[o0,o0,(a1 7)],[o0,o0,o0]] [BT ((h0:Int)<(c.Ah.xs.length:Int)),Qb n10] [(GH z),(Ny c),(27,Ac h0),(30,.slice aL2 ((FQ (z+2)++clo 68 (z+2) B1++clo 70 (z+2) B2).length) cL2),(32,.slice (some ⟨n10+1,0,none⟩) 1 1)] ⟨w,n10+2,[(Ak w),(CO z c),(D8 z),(CY z c),(PQ z B1 B2 aL2 cL2),(caps 3 B1),(caps 3 B2),(bk n10 #[(Ac h0)] 3),(Wi n10 z)]⟩ rfl ⟨bt,rfl,Af⟩ ?_
  refine Vx z 4 8 (FQ (z+2)++clo 68 (z+2) B1++clo 70 (z+2) B2) [(.func (.func 70) #[] #[pt (z+2),pt n10]:Value)] (fun v:Value=>[v]) 109 1 8 (.slice aL2 ((FQ (z+2)++clo 68 (z+2) B1++clo 70 (z+2) B2).length) cL2) (n10+1) 1 1 #[.func (.func 70) #[] #[pt (z+2),pt n10]] 109 (0,0) true (some 33) (by simp only[List.length_cons,List.length_nil];omega) (by simp only[List.length_cons,List.length_nil];omega) (show z≤n10+2 by omega) (fun ax12 cp13 n14 (hn15:n10+2≤n14) => ?_)
  refine Cc 5 0 [] [[o0],[(ov (i6 ((h0+1:Nat):Int))),o0]] [Wr ((h0:Int)+1) (((h0+1:Nat):Int))] [(GH z),(Ny c),(27,i6 ((h0+1:Nat):Int)),(V8 n10 z B1 B2 ax12 cp13)] rfl ⟨CB,Af⟩ ?_
  refine Y0 6 7 [0,1,2,3,4,5,8] 3 B2 n10 h0 [(Ak w),(CO z c),(D8 z),(CY z c),(Ve n10 z B1 B2 ax12 cp13),(caps 3 B1),(Wi n10 z)] hB2 ?_
  refine BX [0,1,2,3,4,5,7] [(Ak w),(CO z c),(D8 z),(CY z c),(Ve n10 z B1 B2 ax12 cp13),(caps 3 B1),(caps 3 (B2++[n10]))] rfl rfl ?_
  refine BR [1,3,26,27] [(GH z),(V8 n10 z B1 B2 ax12 cp13),(Ny c),(27,i6 ((h0+1:Nat):Int))] ?_
  refine Cf (fun a w' hs=>⟨c.Ah.xs.length - (h0+1),by omega,n14,(h0+1),(B2++[n10]),ax12,cp13,rfl,by omega,by omega,(by rw[List.length_append,hB2];rfl),(by(try dsimp only[Wi,D8,CY,CO,Ve,PQ,NW,V8,Lc,Ny,GH]at hs ⊢);rw[VH,←List.append_assoc];exact hs)⟩)
 refine Az 16 0 [0] [[oF],[o0,(a1 3),o0,o0]] [BF ((h0:Int)<(c.Ah.xs.length:Int)),Qb (z+2)] [(GH z),(3,.slice aL2 ((FQ (z+2)++clo 68 (z+2) B1++clo 70 (z+2) B2).length) cL2),(OW c),(38,i6 0)] rfl ⟨bf,rfl,Af⟩ ?_
 refine XB 3 ?_
 refine DY (fun m a w'=>∃ (n17:Nat) (k0:Nat) (B3:List Nat) (aL3:Option Addr) (cL3:Nat),m=c.Dk.xs.length - k0∧n10≤n17∧(k0≤c.Dk.xs.length)∧(B3.length=k0)∧St 50 [(GH z),(3,.slice aL3 ((FQ (z+2)++clo 68 (z+2) B1++clo 70 (z+2) B2++clo 72 (z+2) B3).length) cL3),(OW c),(38,Ac k0)] [] ⟨w,n17,[(Ak w),(CO z c),(D8 z),(CY z c),(QT z B1 B2 B3 aL3 cL3),(caps 3 B1),(caps 3 B2),(caps 3 B3)]⟩ a w') (c.Dk.xs.length - 0) ?_ ?_
 ·intro a w' hs;exact⟨n10,0,([]),aL2,cL2,rfl,Nat.le_refl _,Nat.zero_le _,rfl,(by(try dsimp only[Wi,D8,CY,CO,Ve,QT,PQ,NW,V8,Lc,Ny,OW,GH]at hs ⊢);rw[show clo 72 (z+2) []=[]from rfl,List.append_nil];exact hs)⟩
 rintro m a w' ⟨n17,k0,B3,aL3,cL3,rfl,hn16,hkk0,hB3,hs⟩
 refine(?_:G Tryd.prog 50 [(GH z),(3,.slice aL3 ((FQ (z+2)++clo 68 (z+2) B1++clo 70 (z+2) B2++clo 72 (z+2) B3).length) cL3),(OW c),(38,Ac k0)] [] ⟨w,n17,[(Ak w),(CO z c),(D8 z),(CY z c),(QT z B1 B2 B3 aL3 cL3),(caps 3 B1),(caps 3 B2),(caps 3 B3)]⟩ _ _ _) a w' hs
 clear hs a w'
 have hxl3:(FQ (z+2)++clo 68 (z+2) B1++clo 70 (z+2) B2++clo 72 (z+2) B3).length=5+B1.length+B2.length+k0:=by simp only[List.length_append,J4,hB3];rfl
 refine DW ?_
 by_cases h18:(k0:Int)<(c.Dk.xs.length:Int)
 ·refine q_c 14 3 [1] [[oT],[o0,o0,(a1 8)],[o0,o0,o0]] [BT ((k0:Int)<(c.Dk.xs.length:Int)),Qb n17] [(GH z),(OW c),(38,Ac k0),(41,.slice aL3 ((FQ (z+2)++clo 68 (z+2) B1++clo 70 (z+2) B2++clo 72 (z+2) B3).length) cL3),(43,.slice (some ⟨n17+1,0,none⟩) 1 1)] ⟨w,n17+2,[(Ak w),(CO z c),(D8 z),(CY z c),(QT z B1 B2 B3 aL3 cL3),(caps 3 B1),(caps 3 B2),(caps 3 B3),(bk n17 #[(Ac k0)] 3),(Y8 z n17)]⟩ rfl ⟨bt,rfl,Af⟩ ?_
  refine Vx z 4 9 (FQ (z+2)++clo 68 (z+2) B1++clo 70 (z+2) B2++clo 72 (z+2) B3) [(.func (.func 72) #[] #[pt (z+2),pt n17]:Value)] (fun v:Value=>[v]) 109 1 8 (.slice aL3 ((FQ (z+2)++clo 68 (z+2) B1++clo 70 (z+2) B2++clo 72 (z+2) B3).length) cL3) (n17+1) 1 1 #[.func (.func 72) #[] #[pt (z+2),pt n17]] 109 (0,0) true (some 44) (by simp only[List.length_cons,List.length_nil];omega) (by simp only[List.length_cons,List.length_nil];omega) (show z≤n17+2 by omega) (fun ax19 cp20 n21 (hn22:n17+2≤n21) => ?_)
  refine Cc 5 0 [] [[o0],[(ov (i6 ((k0+1:Nat):Int))),o0]] [Wr ((k0:Int)+1) (((k0+1:Nat):Int))] [(GH z),(OW c),(38,i6 ((k0+1:Nat):Int)),(WY z n17 ax19 B1 B2 B3 cp20)] rfl ⟨CB,Af⟩ ?_
  refine Y0 7 8 [0,1,2,3,4,5,6,9] 3 B3 n17 k0 [(Ak w),(CO z c),(D8 z),(CY z c),(Xz z n17 ax19 B1 B2 B3 cp20),(caps 3 B1),(caps 3 B2),(Y8 z n17)] hB3 ?_
  refine BX [0,1,2,3,4,5,6,8] [(Ak w),(CO z c),(D8 z),(CY z c),(Xz z n17 ax19 B1 B2 B3 cp20),(caps 3 B1),(caps 3 B2),(caps 3 (B3++[n17]))] rfl rfl ?_
  refine BR [1,3,37,38] [(GH z),(WY z n17 ax19 B1 B2 B3 cp20),(OW c),(38,i6 ((k0+1:Nat):Int))] ?_
  refine Cf (fun a w' hs=>⟨c.Dk.xs.length - (k0+1),by omega,n21,(k0+1),(B3++[n17]),ax19,cp20,rfl,by omega,by omega,(by rw[List.length_append,hB3];rfl),(by(try dsimp only[Y8,D8,CY,CO,Xz,QT,PQ,NW,WY,Lc,Ny,OW,GH]at hs ⊢);rw[VH,←List.append_assoc];exact hs)⟩)
 refine q_c 12 3 [0] [[oF],[o0,o0,o0]] [BF ((k0:Int)<(c.Dk.xs.length:Int))] [(46,.slice aL3 ((FQ (z+2)++clo 68 (z+2) B1++clo 70 (z+2) B2++clo 72 (z+2) B3).length) cL3),(48,.slice (some ⟨n17,0,none⟩) 1 1)] ⟨w,n17+1,[(Ak w),(CO z c),(D8 z),(CY z c),(QT z B1 B2 B3 aL3 cL3),(caps 3 B1),(caps 3 B2),(caps 3 B3),(DR z n17)]⟩ rfl ⟨bf,Af⟩ ?_
 refine Vx z 4 8 (FQ (z+2)++clo 68 (z+2) B1++clo 70 (z+2) B2++clo 72 (z+2) B3) [(.func (.func 74) #[] #[pt (z+2)]:Value)] (fun v:Value=>[v]) 109 1 8 (.slice aL3 ((FQ (z+2)++clo 68 (z+2) B1++clo 70 (z+2) B2++clo 72 (z+2) B3).length) cL3) n17 1 1 #[.func (.func 74) #[] #[pt (z+2)]] 109 (0,0) true (some 49) (by simp only[List.length_cons,List.length_nil];omega) (by simp only[List.length_cons,List.length_nil];omega) (show z≤n17+1 by omega) (fun ax23 cp24 n25 (hn26:n17+1≤n25) => ?_)
 refine Cc 3 0 [] [[o0]] [] [(2,.slice ax23 ((FQ (z+2)++clo 68 (z+2) B1++clo 70 (z+2) B2++clo 72 (z+2) B3++[(.func (.func 74) #[] #[pt (z+2)]:Value)]).length) cp24)] rfl Af ?_
 refine AO [] [] (.slice ax23 ((FQ (z+2)++clo 68 (z+2) B1++clo 70 (z+2) B2++clo 72 (z+2) B3++[(.func (.func 74) #[] #[pt (z+2)]:Value)]).length) cp24) Af ?_
 intro w27 hw27
 refine⟨_,_,rfl,hw27, ?_⟩
 refine Cc 3 0 [] [[o0,o0]] [] [(C9 z),(8,.slice ax23 ((FQ (z+2)++clo 68 (z+2) B1++clo 70 (z+2) B2++clo 72 (z+2) B3++[(.func (.func 74) #[] #[pt (z+2)]:Value)]).length) cp24),(9,i6 (((FQ (z+2)++clo 68 (z+2) B1++clo 70 (z+2) B2++clo 72 (z+2) B3++[(.func (.func 74) #[] #[pt (z+2)]:Value)]).length:Nat):Int)),(10,i6 0)] rfl Af ?_
 refine DY (fun m a w'=>∃ (n29:Nat) (k:Nat) (aR:Option Addr) (cR:Nat),m=(asks (z+2) B1 B2 B3).length - k∧n25≤n29∧(k≤(asks (z+2) B1 B2 B3).length)∧(∀ i,i<k→gd (answers c) i=D9)∧St 25 [(C9 z),(8,.slice aR ((asks (z+2) B1 B2 B3).length) cR),(DT z B1 B2 B3),(10,Ac k)] [] ⟨w,n29,[(Ak w),(CO z c),(D8 z),(CY z c),(Ci z 109 1 (fun v:Value=>[v]) (.slice aR ((asks (z+2) B1 B2 B3).length) cR) (asks (z+2) B1 B2 B3)),(caps 3 B1),(caps 3 B2),(caps 3 B3),(DR z n17)]⟩ a w') ((asks (z+2) B1 B2 B3).length - 0) ?_ ?_
 ·intro a w' hs;exact⟨n25,0,ax23,cp24,rfl,Nat.le_refl _,Nat.zero_le _,fun i hi=>absurd hi (Nat.not_lt_zero i),hs⟩
 rintro m a w' ⟨n29,k,aR,cR,rfl,hn28,hkk,hf,hs⟩
 refine(?_:G Tryd.prog 25 [(C9 z),(8,.slice aR ((asks (z+2) B1 B2 B3).length) cR),(DT z B1 B2 B3),(10,Ac k)] [] ⟨w,n29,[(Ak w),(CO z c),(D8 z),(CY z c),(Ci z 109 1 (fun v:Value=>[v]) (.slice aR ((asks (z+2) B1 B2 B3).length) cR) (asks (z+2) B1 B2 B3)),(caps 3 B1),(caps 3 B2),(caps 3 B3),(DR z n17)]⟩ _ _ _) a w' hs
 clear hs a w'
 have hB1:B1.length=c.Aa.xs.length:=by omega
 have hB2:B2.length=c.Ah.xs.length:=by omega
 have hB3:B3.length=c.Dk.xs.length:=by omega
 have htot:(asks (z+2) B1 B2 B3).length=_:=Zg
 refine DW ?_
 by_cases h30:(k:Int)<(((asks (z+2) B1 B2 B3).length:Nat):Int)
 ·refine Az 10 0 [1] [[oT]] [BT ((k:Int)<(((asks (z+2) B1 B2 B3).length:Nat):Int))] [(C9 z),(8,.slice aR ((asks (z+2) B1 B2 B3).length) cR),(DT z B1 B2 B3),(10,Ac k),(11,.bool true)] rfl ⟨bt,Af⟩ ?_
  rcases kinds (c:=c) (bc:=z+2) hB1 hB2 hB3 (k:=k) (by omega)with⟨hk0,hv,ha⟩ | ⟨hk0,hv,ha⟩ | ⟨hk0,hv,ha⟩ | ⟨hk0,hv,ha⟩ | ⟨hk0,hv,ha⟩ | ⟨p,b,hk0,hp,hb,hv,ha⟩ | ⟨p,b,hk0,hp,hb,hv,ha⟩ | ⟨p,b,hk0,hp,hb,hv,ha⟩ | ⟨hk0,hv,ha⟩
  ·refine JS (base:=z) (e:=109) (sz:=1) (cells:=(fun v:Value=>[v])) (a:=aR) (n:=((asks (z+2) B1 B2 B3).length)) (cap:=cR) (xs:=(asks (z+2) B1 B2 B3)) 4 (by omega) (fun b31 hg32 hb33 => ?_)
   subst hg32
   refine Az 5 1 [] [[(oi k),(oa [.via 4 (.func (.func 61) #[] #[pt (z+2)])]),o0],[o0]] [DJ k,k<(asks (z+2) B1 B2 B3).length,Di,∀ w',Ch.holds (QX z B1 B2 B3 b31 cR) w'→w'.cell? ⟨b31,0+k,none⟩=some (.func (.func 61) #[] #[pt (z+2)])] [(C9 z),(Tm z B1 B2 B3 b31 cR),(DT z B1 B2 B3),(10,Ac k),(14,.func (.func 61) #[] #[pt (z+2)])] rfl ⟨rfl,(by omega),rfl,FI (sz:=1) (j:=k) (k:=0) (fun _=>rfl) (by omega) (congrArg some hv),Af⟩ ?_
   refine BI 61 #[pt (z+2)] (some 15) (.agg (Am.arr (GN c))) (fun w34 hw34=>q1_calls w34 (hL.ext (hw34.ext rfl)) c (hc.ext (hw34.ext rfl) (fun _ h=>h)) (z+2) (Lu hw34 (i:=3))) (fun n35 (hn36:n29≤n35) => ?_)
   refine Gi 3 0 [] [[o0,(an 3 9)]] [Qb n35,Qb n35,Qb n35] [(C9 z),(Tm z B1 B2 B3 b31 cR),(DT z B1 B2 B3),(10,Ac k),(6,pt n35)] ⟨w,n35+1,[(Ak w),(CO z c),(D8 z),(CY z c),(QX z B1 B2 B3 b31 cR),(caps 3 B1),(caps 3 B2),(caps 3 B3),(DR z n17),(UW c n35)]⟩ rfl ⟨rfl,rfl,rfl,Af⟩ ?_
   by_cases h37:(((GN c).e:Int)==(0:Int)&&((((GN c).Ag.First:Int)==(0:Int)&&(((GN c).Ag.Second:Int)==(0:Int)&&true))&&true))=true
   ·refine Az 9 0 [0] [[(an 3 9),(oa [.via 0 (i6 0),.via 0 (i6 0),.via 0 (i6 0)]),⟨.seq true,none⟩],[(ov (i6 ((k+1:Nat):Int))),o0]] [Qb n35,Qb n35,Qb n35,Old w 0 0 (i6 0),Old w 0 1 (i6 0),Old w 0 2 (i6 0),(((GN c).e:Int)==(0:Int)&&((((GN c).Ag.First:Int)==(0:Int)&&(((GN c).Ag.Second:Int)==(0:Int)&&true))&&true))=true,Wr ((k:Int)+1) (((k+1:Nat):Int))] [(C9 z),(Tm z B1 B2 B3 b31 cR),(DT z B1 B2 B3),(IK k)] rfl ⟨rfl,rfl,rfl,Aw (hL.2 0 _ rfl),Aw (hL.2 1 _ rfl),Aw (hL.2 2 _ rfl),h37,CB,Af⟩ ?_
    refine BX [0,1,2,3,4,5,6,7,8] [(Ak w),(CO z c),(D8 z),(CY z c),(QX z B1 B2 B3 b31 cR),(caps 3 B1),(caps 3 B2),(caps 3 B3),(DR z n17)] rfl rfl ?_
    refine BR [3,8,9,10] [(C9 z),(Tm z B1 B2 B3 b31 cR),(DT z B1 B2 B3),(IK k)] ?_
    refine Cf (fun a w' hs=>⟨(asks (z+2) B1 B2 B3).length - (k+1),by omega,(n35+1),(k+1),(some ⟨b31,0,none⟩),cR,rfl,by omega,by omega,Ha hf (by rw[ha];exact F7.1 h37),hs⟩)
   refine Az 5 0 [1] [[(an 3 9),(oa [.via 0 (i6 0),.via 0 (i6 0),.via 0 (i6 0)]),⟨.seq false,none⟩]] [Qb n35,Qb n35,Qb n35,Old w 0 0 (i6 0),Old w 0 1 (i6 0),Old w 0 2 (i6 0),(((GN c).e:Int)==(0:Int)&&((((GN c).Ag.First:Int)==(0:Int)&&(((GN c).Ag.Second:Int)==(0:Int)&&true))&&true))=false] [(C9 z),(Tm z B1 B2 B3 b31 cR),(DT z B1 B2 B3),(10,Ac k),(6,pt n35),(18,.bool true)] rfl ⟨rfl,rfl,rfl,Aw (hL.2 0 _ rfl),Aw (hL.2 1 _ rfl),Aw (hL.2 2 _ rfl),(Bool.eq_false_iff.2 h37),Af⟩ ?_
   refine Eo 5 [0,1,2,3,4,5,6,7,8,9] [(Ak w),(CO z c),(D8 z),(CY z c),(QX z B1 B2 B3 b31 cR),(caps 3 B1),(caps 3 B2),(caps 3 B3),(DR z n17),(UW c n35)] rfl rfl ?_
   refine D6 [(0,o0),(1,(a1 9)),(2,o0),(3,(an 2 9)),(4,o0)] [3,22,2] [Qb n35,Qb n35,Qb n35] (DC 5 1) [(C9 z),(22,.agg #[i6 ((GN c).Ag.First),i6 ((GN c).Ag.Second)]),(2,i6 ((GN c).e))] ⟨rfl,rfl,rfl,Af⟩ ?_
   refine Bv 5 ?_
   refine BC (an 2 2) [3,2] [Qb (z+1),Qb (z+1)] [(C9 z),(2,i6 ((GN c).e))] ⟨w,n35+1,[(Ak w),(CO z c),(ZaT z c),(CY z c),(QX z B1 B2 B3 b31 cR),(caps 3 B1),(caps 3 B2),(caps 3 B3),(DR z n17),(UW c n35)]⟩ [] ⟨rfl,rfl,Af⟩ (.inl rfl) ?_
   refine DV 6 [0,1,2,3,4,5,6,7,8,9] [(Ak w),(CO z c),(ZaT z c),(CY z c),(QX z B1 B2 B3 b31 cR),(caps 3 B1),(caps 3 B2),(caps 3 B3),(DR z n17),(UW c n35)] rfl rfl ?_
   refine Dl ?_
   refine BR [3,2] [(C9 z),(2,i6 ((GN c).e))] ?_
   refine IV <| KP <| AO [.at 2,.at 2] [Qb (z+1),Qb (z+1)] (.tuple #[i6 ((GN c).e),.agg #[i6 ((GN c).Ag.First),i6 ((GN c).Ag.Second)]]) ⟨rfl,rfl,Af⟩ ?_
   intro w38 hw38
   exact⟨congrArg (fun t:Am=>Ending.returned (.tuple #[i6 t.e,.agg #[i6 t.Ag.First,i6 t.Ag.Second]])) ((O3 (xs:=answers c) (k:=k) (by rw[Jm];omega) hf (by rw[ha];exact fun x=>h37 (F7.2 x))).trans ha).symm,Bi hw38⟩
  ·refine JS (base:=z) (e:=109) (sz:=1) (cells:=(fun v:Value=>[v])) (a:=aR) (n:=((asks (z+2) B1 B2 B3).length)) (cap:=cR) (xs:=(asks (z+2) B1 B2 B3)) 4 (by omega) (fun b39 hg40 hb41 => ?_)
   subst hg40
   refine Az 5 1 [] [[(oi k),(oa [.via 4 (.func (.func 64) #[] #[pt (z+2)])]),o0],[o0]] [DJ k,k<(asks (z+2) B1 B2 B3).length,Di,∀ w',Ch.holds (Rj z B1 B2 B3 cR b39) w'→w'.cell? ⟨b39,0+k,none⟩=some (.func (.func 64) #[] #[pt (z+2)])] [(C9 z),(Tu z B1 B2 B3 cR b39),(DT z B1 B2 B3),(10,Ac k),(14,.func (.func 64) #[] #[pt (z+2)])] rfl ⟨rfl,(by omega),rfl,FI (sz:=1) (j:=k) (k:=0) (fun _=>rfl) (by omega) (congrArg some hv),Af⟩ ?_
   refine BI 64 #[pt (z+2)] (some 15) (.agg (Am.arr (whole2 c))) (fun w42 hw42=>q2_calls w42 (hL.ext (hw42.ext rfl)) c (hc.ext (hw42.ext rfl) (fun _ h=>h)) (z+2) (Lu hw42 (i:=3))) (fun n43 (hn44:n29≤n43) => ?_)
   refine Gi 3 0 [] [[o0,(an 3 9)]] [Qb n43,Qb n43,Qb n43] [(C9 z),(Tu z B1 B2 B3 cR b39),(DT z B1 B2 B3),(10,Ac k),(6,pt n43)] ⟨w,n43+1,[(Ak w),(CO z c),(D8 z),(CY z c),(Rj z B1 B2 B3 cR b39),(caps 3 B1),(caps 3 B2),(caps 3 B3),(DR z n17),(UZ c n43)]⟩ rfl ⟨rfl,rfl,rfl,Af⟩ ?_
   by_cases h45:(((whole2 c).e:Int)==(0:Int)&&((((whole2 c).Ag.First:Int)==(0:Int)&&(((whole2 c).Ag.Second:Int)==(0:Int)&&true))&&true))=true
   ·refine Az 9 0 [0] [[(an 3 9),(oa [.via 0 (i6 0),.via 0 (i6 0),.via 0 (i6 0)]),⟨.seq true,none⟩],[(ov (i6 ((k+1:Nat):Int))),o0]] [Qb n43,Qb n43,Qb n43,Old w 0 0 (i6 0),Old w 0 1 (i6 0),Old w 0 2 (i6 0),(((whole2 c).e:Int)==(0:Int)&&((((whole2 c).Ag.First:Int)==(0:Int)&&(((whole2 c).Ag.Second:Int)==(0:Int)&&true))&&true))=true,Wr ((k:Int)+1) (((k+1:Nat):Int))] [(C9 z),(Tu z B1 B2 B3 cR b39),(DT z B1 B2 B3),(IK k)] rfl ⟨rfl,rfl,rfl,Aw (hL.2 0 _ rfl),Aw (hL.2 1 _ rfl),Aw (hL.2 2 _ rfl),h45,CB,Af⟩ ?_
    refine BX [0,1,2,3,4,5,6,7,8] [(Ak w),(CO z c),(D8 z),(CY z c),(Rj z B1 B2 B3 cR b39),(caps 3 B1),(caps 3 B2),(caps 3 B3),(DR z n17)] rfl rfl ?_
    refine BR [3,8,9,10] [(C9 z),(Tu z B1 B2 B3 cR b39),(DT z B1 B2 B3),(IK k)] ?_
    refine Cf (fun a w' hs=>⟨(asks (z+2) B1 B2 B3).length - (k+1),by omega,(n43+1),(k+1),(some ⟨b39,0,none⟩),cR,rfl,by omega,by omega,Ha hf (by rw[ha];exact F7.1 h45),hs⟩)
   refine Az 5 0 [1] [[(an 3 9),(oa [.via 0 (i6 0),.via 0 (i6 0),.via 0 (i6 0)]),⟨.seq false,none⟩]] [Qb n43,Qb n43,Qb n43,Old w 0 0 (i6 0),Old w 0 1 (i6 0),Old w 0 2 (i6 0),(((whole2 c).e:Int)==(0:Int)&&((((whole2 c).Ag.First:Int)==(0:Int)&&(((whole2 c).Ag.Second:Int)==(0:Int)&&true))&&true))=false] [(C9 z),(Tu z B1 B2 B3 cR b39),(DT z B1 B2 B3),(10,Ac k),(6,pt n43),(18,.bool true)] rfl ⟨rfl,rfl,rfl,Aw (hL.2 0 _ rfl),Aw (hL.2 1 _ rfl),Aw (hL.2 2 _ rfl),(Bool.eq_false_iff.2 h45),Af⟩ ?_
   refine Eo 5 [0,1,2,3,4,5,6,7,8,9] [(Ak w),(CO z c),(D8 z),(CY z c),(Rj z B1 B2 B3 cR b39),(caps 3 B1),(caps 3 B2),(caps 3 B3),(DR z n17),(UZ c n43)] rfl rfl ?_
   refine D6 [(0,o0),(1,(a1 9)),(2,o0),(3,(an 2 9)),(4,o0)] [3,22,2] [Qb n43,Qb n43,Qb n43] (DC 5 1) [(C9 z),(22,.agg #[i6 ((whole2 c).Ag.First),i6 ((whole2 c).Ag.Second)]),(2,i6 ((whole2 c).e))] ⟨rfl,rfl,rfl,Af⟩ ?_
   refine Bv 5 ?_
   refine BC (an 2 2) [3,2] [Qb (z+1),Qb (z+1)] [(C9 z),(2,i6 ((whole2 c).e))] ⟨w,n43+1,[(Ak w),(CO z c),(ZaX z c),(CY z c),(Rj z B1 B2 B3 cR b39),(caps 3 B1),(caps 3 B2),(caps 3 B3),(DR z n17),(UZ c n43)]⟩ [] ⟨rfl,rfl,Af⟩ (.inl rfl) ?_
   refine DV 6 [0,1,2,3,4,5,6,7,8,9] [(Ak w),(CO z c),(ZaX z c),(CY z c),(Rj z B1 B2 B3 cR b39),(caps 3 B1),(caps 3 B2),(caps 3 B3),(DR z n17),(UZ c n43)] rfl rfl ?_
   refine Dl ?_
   refine BR [3,2] [(C9 z),(2,i6 ((whole2 c).e))] ?_
   refine IV <| KP <| AO [.at 2,.at 2] [Qb (z+1),Qb (z+1)] (.tuple #[i6 ((whole2 c).e),.agg #[i6 ((whole2 c).Ag.First),i6 ((whole2 c).Ag.Second)]]) ⟨rfl,rfl,Af⟩ ?_
   intro w46 hw46
   exact⟨congrArg (fun t:Am=>Ending.returned (.tuple #[i6 t.e,.agg #[i6 t.Ag.First,i6 t.Ag.Second]])) ((O3 (xs:=answers c) (k:=k) (by rw[Jm];omega) hf (by rw[ha];exact fun x=>h45 (F7.2 x))).trans ha).symm,Bi hw46⟩
  ·refine JS (base:=z) (e:=109) (sz:=1) (cells:=(fun v:Value=>[v])) (a:=aR) (n:=((asks (z+2) B1 B2 B3).length)) (cap:=cR) (xs:=(asks (z+2) B1 B2 B3)) 4 (by omega) (fun b47 hg48 hb49 => ?_)
   subst hg48
   refine Az 5 1 [] [[(oi k),(oa [.via 4 (.func (.func 65) #[] #[pt (z+2)])]),o0],[o0]] [DJ k,k<(asks (z+2) B1 B2 B3).length,Di,∀ w',Ch.holds (QC z B1 B2 B3 cR b47) w'→w'.cell? ⟨b47,0+k,none⟩=some (.func (.func 65) #[] #[pt (z+2)])] [(C9 z),(SL z B1 B2 B3 cR b47),(DT z B1 B2 B3),(10,Ac k),(14,.func (.func 65) #[] #[pt (z+2)])] rfl ⟨rfl,(by omega),rfl,FI (sz:=1) (j:=k) (k:=0) (fun _=>rfl) (by omega) (congrArg some hv),Af⟩ ?_
   refine BI 65 #[pt (z+2)] (some 15) (.agg (Am.arr (GK c))) (fun w50 hw50=>q3_calls w50 (hL.ext (hw50.ext rfl)) c (hc.ext (hw50.ext rfl) (fun _ h=>h)) (z+2) (Lu hw50 (i:=3))) (fun n51 (hn52:n29≤n51) => ?_)
   refine Gi 3 0 [] [[o0,(an 3 9)]] [Qb n51,Qb n51,Qb n51] [(C9 z),(SL z B1 B2 B3 cR b47),(DT z B1 B2 B3),(10,Ac k),(6,pt n51)] ⟨w,n51+1,[(Ak w),(CO z c),(D8 z),(CY z c),(QC z B1 B2 B3 cR b47),(caps 3 B1),(caps 3 B2),(caps 3 B3),(DR z n17),(Vt c n51)]⟩ rfl ⟨rfl,rfl,rfl,Af⟩ ?_
   by_cases h53:(((GK c).e:Int)==(0:Int)&&((((GK c).Ag.First:Int)==(0:Int)&&(((GK c).Ag.Second:Int)==(0:Int)&&true))&&true))=true
   ·refine Az 9 0 [0] [[(an 3 9),(oa [.via 0 (i6 0),.via 0 (i6 0),.via 0 (i6 0)]),⟨.seq true,none⟩],[(ov (i6 ((k+1:Nat):Int))),o0]] [Qb n51,Qb n51,Qb n51,Old w 0 0 (i6 0),Old w 0 1 (i6 0),Old w 0 2 (i6 0),(((GK c).e:Int)==(0:Int)&&((((GK c).Ag.First:Int)==(0:Int)&&(((GK c).Ag.Second:Int)==(0:Int)&&true))&&true))=true,Wr ((k:Int)+1) (((k+1:Nat):Int))] [(C9 z),(SL z B1 B2 B3 cR b47),(DT z B1 B2 B3),(IK k)] rfl ⟨rfl,rfl,rfl,Aw (hL.2 0 _ rfl),Aw (hL.2 1 _ rfl),Aw (hL.2 2 _ rfl),h53,CB,Af⟩ ?_
    refine BX [0,1,2,3,4,5,6,7,8] [(Ak w),(CO z c),(D8 z),(CY z c),(QC z B1 B2 B3 cR b47),(caps 3 B1),(caps 3 B2),(caps 3 B3),(DR z n17)] rfl rfl ?_
    refine BR [3,8,9,10] [(C9 z),(SL z B1 B2 B3 cR b47),(DT z B1 B2 B3),(IK k)] ?_
    refine Cf (fun a w' hs=>⟨(asks (z+2) B1 B2 B3).length - (k+1),by omega,(n51+1),(k+1),(some ⟨b47,0,none⟩),cR,rfl,by omega,by omega,Ha hf (by rw[ha];exact F7.1 h53),hs⟩)
   refine Az 5 0 [1] [[(an 3 9),(oa [.via 0 (i6 0),.via 0 (i6 0),.via 0 (i6 0)]),⟨.seq false,none⟩]] [Qb n51,Qb n51,Qb n51,Old w 0 0 (i6 0),Old w 0 1 (i6 0),Old w 0 2 (i6 0),(((GK c).e:Int)==(0:Int)&&((((GK c).Ag.First:Int)==(0:Int)&&(((GK c).Ag.Second:Int)==(0:Int)&&true))&&true))=false] [(C9 z),(SL z B1 B2 B3 cR b47),(DT z B1 B2 B3),(10,Ac k),(6,pt n51),(18,.bool true)] rfl ⟨rfl,rfl,rfl,Aw (hL.2 0 _ rfl),Aw (hL.2 1 _ rfl),Aw (hL.2 2 _ rfl),(Bool.eq_false_iff.2 h53),Af⟩ ?_
   refine Eo 5 [0,1,2,3,4,5,6,7,8,9] [(Ak w),(CO z c),(D8 z),(CY z c),(QC z B1 B2 B3 cR b47),(caps 3 B1),(caps 3 B2),(caps 3 B3),(DR z n17),(Vt c n51)] rfl rfl ?_
   refine D6 [(0,o0),(1,(a1 9)),(2,o0),(3,(an 2 9)),(4,o0)] [3,22,2] [Qb n51,Qb n51,Qb n51] (DC 5 1) [(C9 z),(22,.agg #[i6 ((GK c).Ag.First),i6 ((GK c).Ag.Second)]),(2,i6 ((GK c).e))] ⟨rfl,rfl,rfl,Af⟩ ?_
   refine Bv 5 ?_
   refine BC (an 2 2) [3,2] [Qb (z+1),Qb (z+1)] [(C9 z),(2,i6 ((GK c).e))] ⟨w,n51+1,[(Ak w),(CO z c),(ZaO z c),(CY z c),(QC z B1 B2 B3 cR b47),(caps 3 B1),(caps 3 B2),(caps 3 B3),(DR z n17),(Vt c n51)]⟩ [] ⟨rfl,rfl,Af⟩ (.inl rfl) ?_
   refine DV 6 [0,1,2,3,4,5,6,7,8,9] [(Ak w),(CO z c),(ZaO z c),(CY z c),(QC z B1 B2 B3 cR b47),(caps 3 B1),(caps 3 B2),(caps 3 B3),(DR z n17),(Vt c n51)] rfl rfl ?_
   refine Dl ?_
   refine BR [3,2] [(C9 z),(2,i6 ((GK c).e))] ?_
   refine IV <| KP <| AO [.at 2,.at 2] [Qb (z+1),Qb (z+1)] (.tuple #[i6 ((GK c).e),.agg #[i6 ((GK c).Ag.First),i6 ((GK c).Ag.Second)]]) ⟨rfl,rfl,Af⟩ ?_
   intro w54 hw54
   exact⟨congrArg (fun t:Am=>Ending.returned (.tuple #[i6 t.e,.agg #[i6 t.Ag.First,i6 t.Ag.Second]])) ((O3 (xs:=answers c) (k:=k) (by rw[Jm];omega) hf (by rw[ha];exact fun x=>h53 (F7.2 x))).trans ha).symm,Bi hw54⟩
  ·refine JS (base:=z) (e:=109) (sz:=1) (cells:=(fun v:Value=>[v])) (a:=aR) (n:=((asks (z+2) B1 B2 B3).length)) (cap:=cR) (xs:=(asks (z+2) B1 B2 B3)) 4 (by omega) (fun b55 hg56 hb57 => ?_)
   subst hg56
   refine Az 5 1 [] [[(oi k),(oa [.via 4 (.func (.func 66) #[] #[pt (z+2)])]),o0],[o0]] [DJ k,k<(asks (z+2) B1 B2 B3).length,Di,∀ w',Ch.holds (Rl z B1 B2 B3 cR b55) w'→w'.cell? ⟨b55,0+k,none⟩=some (.func (.func 66) #[] #[pt (z+2)])] [(C9 z),(SA z B1 B2 B3 cR b55),(DT z B1 B2 B3),(10,Ac k),(14,.func (.func 66) #[] #[pt (z+2)])] rfl ⟨rfl,(by omega),rfl,FI (sz:=1) (j:=k) (k:=0) (fun _=>rfl) (by omega) (congrArg some hv),Af⟩ ?_
   refine BI 66 #[pt (z+2)] (some 15) (.agg (Am.arr (GM c))) (fun w58 hw58=>q4_calls w58 (hL.ext (hw58.ext rfl)) c (hc.ext (hw58.ext rfl) (fun _ h=>h)) (z+2) (Lu hw58 (i:=3))) (fun n59 (hn60:n29≤n59) => ?_)
   refine Gi 3 0 [] [[o0,(an 3 9)]] [Qb n59,Qb n59,Qb n59] [(C9 z),(SA z B1 B2 B3 cR b55),(DT z B1 B2 B3),(10,Ac k),(6,pt n59)] ⟨w,n59+1,[(Ak w),(CO z c),(D8 z),(CY z c),(Rl z B1 B2 B3 cR b55),(caps 3 B1),(caps 3 B2),(caps 3 B3),(DR z n17),(Vo c n59)]⟩ rfl ⟨rfl,rfl,rfl,Af⟩ ?_
   by_cases h61:(((GM c).e:Int)==(0:Int)&&((((GM c).Ag.First:Int)==(0:Int)&&(((GM c).Ag.Second:Int)==(0:Int)&&true))&&true))=true
   ·refine Az 9 0 [0] [[(an 3 9),(oa [.via 0 (i6 0),.via 0 (i6 0),.via 0 (i6 0)]),⟨.seq true,none⟩],[(ov (i6 ((k+1:Nat):Int))),o0]] [Qb n59,Qb n59,Qb n59,Old w 0 0 (i6 0),Old w 0 1 (i6 0),Old w 0 2 (i6 0),(((GM c).e:Int)==(0:Int)&&((((GM c).Ag.First:Int)==(0:Int)&&(((GM c).Ag.Second:Int)==(0:Int)&&true))&&true))=true,Wr ((k:Int)+1) (((k+1:Nat):Int))] [(C9 z),(SA z B1 B2 B3 cR b55),(DT z B1 B2 B3),(IK k)] rfl ⟨rfl,rfl,rfl,Aw (hL.2 0 _ rfl),Aw (hL.2 1 _ rfl),Aw (hL.2 2 _ rfl),h61,CB,Af⟩ ?_
    refine BX [0,1,2,3,4,5,6,7,8] [(Ak w),(CO z c),(D8 z),(CY z c),(Rl z B1 B2 B3 cR b55),(caps 3 B1),(caps 3 B2),(caps 3 B3),(DR z n17)] rfl rfl ?_
    refine BR [3,8,9,10] [(C9 z),(SA z B1 B2 B3 cR b55),(DT z B1 B2 B3),(IK k)] ?_
    refine Cf (fun a w' hs=>⟨(asks (z+2) B1 B2 B3).length - (k+1),by omega,(n59+1),(k+1),(some ⟨b55,0,none⟩),cR,rfl,by omega,by omega,Ha hf (by rw[ha];exact F7.1 h61),hs⟩)
   refine Az 5 0 [1] [[(an 3 9),(oa [.via 0 (i6 0),.via 0 (i6 0),.via 0 (i6 0)]),⟨.seq false,none⟩]] [Qb n59,Qb n59,Qb n59,Old w 0 0 (i6 0),Old w 0 1 (i6 0),Old w 0 2 (i6 0),(((GM c).e:Int)==(0:Int)&&((((GM c).Ag.First:Int)==(0:Int)&&(((GM c).Ag.Second:Int)==(0:Int)&&true))&&true))=false] [(C9 z),(SA z B1 B2 B3 cR b55),(DT z B1 B2 B3),(10,Ac k),(6,pt n59),(18,.bool true)] rfl ⟨rfl,rfl,rfl,Aw (hL.2 0 _ rfl),Aw (hL.2 1 _ rfl),Aw (hL.2 2 _ rfl),(Bool.eq_false_iff.2 h61),Af⟩ ?_
   refine Eo 5 [0,1,2,3,4,5,6,7,8,9] [(Ak w),(CO z c),(D8 z),(CY z c),(Rl z B1 B2 B3 cR b55),(caps 3 B1),(caps 3 B2),(caps 3 B3),(DR z n17),(Vo c n59)] rfl rfl ?_
   refine D6 [(0,o0),(1,(a1 9)),(2,o0),(3,(an 2 9)),(4,o0)] [3,22,2] [Qb n59,Qb n59,Qb n59] (DC 5 1) [(C9 z),(22,.agg #[i6 ((GM c).Ag.First),i6 ((GM c).Ag.Second)]),(2,i6 ((GM c).e))] ⟨rfl,rfl,rfl,Af⟩ ?_
   refine Bv 5 ?_
   refine BC (an 2 2) [3,2] [Qb (z+1),Qb (z+1)] [(C9 z),(2,i6 ((GM c).e))] ⟨w,n59+1,[(Ak w),(CO z c),(qdvx_9 z c),(CY z c),(Rl z B1 B2 B3 cR b55),(caps 3 B1),(caps 3 B2),(caps 3 B3),(DR z n17),(Vo c n59)]⟩ [] ⟨rfl,rfl,Af⟩ (.inl rfl) ?_
   refine DV 6 [0,1,2,3,4,5,6,7,8,9] [(Ak w),(CO z c),(qdvx_9 z c),(CY z c),(Rl z B1 B2 B3 cR b55),(caps 3 B1),(caps 3 B2),(caps 3 B3),(DR z n17),(Vo c n59)] rfl rfl ?_
   refine Dl ?_
   refine BR [3,2] [(C9 z),(2,i6 ((GM c).e))] ?_
   refine IV <| KP <| AO [.at 2,.at 2] [Qb (z+1),Qb (z+1)] (.tuple #[i6 ((GM c).e),.agg #[i6 ((GM c).Ag.First),i6 ((GM c).Ag.Second)]]) ⟨rfl,rfl,Af⟩ ?_
   intro w62 hw62
   exact⟨congrArg (fun t:Am=>Ending.returned (.tuple #[i6 t.e,.agg #[i6 t.Ag.First,i6 t.Ag.Second]])) ((O3 (xs:=answers c) (k:=k) (by rw[Jm];omega) hf (by rw[ha];exact fun x=>h61 (F7.2 x))).trans ha).symm,Bi hw62⟩
  ·refine JS (base:=z) (e:=109) (sz:=1) (cells:=(fun v:Value=>[v])) (a:=aR) (n:=((asks (z+2) B1 B2 B3).length)) (cap:=cR) (xs:=(asks (z+2) B1 B2 B3)) 4 (by omega) (fun b63 hg64 hb65 => ?_)
   subst hg64
   refine Az 5 1 [] [[(oi k),(oa [.via 4 (.func (.func 67) #[] #[pt (z+2)])]),o0],[o0]] [DJ k,k<(asks (z+2) B1 B2 B3).length,Di,∀ w',Ch.holds (QS z B1 B2 B3 cR b63) w'→w'.cell? ⟨b63,0+k,none⟩=some (.func (.func 67) #[] #[pt (z+2)])] [(C9 z),(SK z B1 B2 B3 cR b63),(DT z B1 B2 B3),(10,Ac k),(14,.func (.func 67) #[] #[pt (z+2)])] rfl ⟨rfl,(by omega),rfl,FI (sz:=1) (j:=k) (k:=0) (fun _=>rfl) (by omega) (congrArg some hv),Af⟩ ?_
   refine BI 67 #[pt (z+2)] (some 15) (.agg (Am.arr (Gx c))) (fun w66 hw66=>q5_calls w66 (hL.ext (hw66.ext rfl)) c (hc.ext (hw66.ext rfl) (fun _ h=>h)) (z+2) (Lu hw66 (i:=3))) (fun n67 (hn68:n29≤n67) => ?_)
   refine Gi 3 0 [] [[o0,(an 3 9)]] [Qb n67,Qb n67,Qb n67] [(C9 z),(SK z B1 B2 B3 cR b63),(DT z B1 B2 B3),(10,Ac k),(6,pt n67)] ⟨w,n67+1,[(Ak w),(CO z c),(D8 z),(CY z c),(QS z B1 B2 B3 cR b63),(caps 3 B1),(caps 3 B2),(caps 3 B3),(DR z n17),(UY c n67)]⟩ rfl ⟨rfl,rfl,rfl,Af⟩ ?_
   by_cases h69:(((Gx c).e:Int)==(0:Int)&&((((Gx c).Ag.First:Int)==(0:Int)&&(((Gx c).Ag.Second:Int)==(0:Int)&&true))&&true))=true
   ·refine Az 9 0 [0] [[(an 3 9),(oa [.via 0 (i6 0),.via 0 (i6 0),.via 0 (i6 0)]),⟨.seq true,none⟩],[(ov (i6 ((k+1:Nat):Int))),o0]] [Qb n67,Qb n67,Qb n67,Old w 0 0 (i6 0),Old w 0 1 (i6 0),Old w 0 2 (i6 0),(((Gx c).e:Int)==(0:Int)&&((((Gx c).Ag.First:Int)==(0:Int)&&(((Gx c).Ag.Second:Int)==(0:Int)&&true))&&true))=true,Wr ((k:Int)+1) (((k+1:Nat):Int))] [(C9 z),(SK z B1 B2 B3 cR b63),(DT z B1 B2 B3),(IK k)] rfl ⟨rfl,rfl,rfl,Aw (hL.2 0 _ rfl),Aw (hL.2 1 _ rfl),Aw (hL.2 2 _ rfl),h69,CB,Af⟩ ?_
    refine BX [0,1,2,3,4,5,6,7,8] [(Ak w),(CO z c),(D8 z),(CY z c),(QS z B1 B2 B3 cR b63),(caps 3 B1),(caps 3 B2),(caps 3 B3),(DR z n17)] rfl rfl ?_
    refine BR [3,8,9,10] [(C9 z),(SK z B1 B2 B3 cR b63),(DT z B1 B2 B3),(IK k)] ?_
    refine Cf (fun a w' hs=>⟨(asks (z+2) B1 B2 B3).length - (k+1),by omega,(n67+1),(k+1),(some ⟨b63,0,none⟩),cR,rfl,by omega,by omega,Ha hf (by rw[ha];exact F7.1 h69),hs⟩)
   refine Az 5 0 [1] [[(an 3 9),(oa [.via 0 (i6 0),.via 0 (i6 0),.via 0 (i6 0)]),⟨.seq false,none⟩]] [Qb n67,Qb n67,Qb n67,Old w 0 0 (i6 0),Old w 0 1 (i6 0),Old w 0 2 (i6 0),(((Gx c).e:Int)==(0:Int)&&((((Gx c).Ag.First:Int)==(0:Int)&&(((Gx c).Ag.Second:Int)==(0:Int)&&true))&&true))=false] [(C9 z),(SK z B1 B2 B3 cR b63),(DT z B1 B2 B3),(10,Ac k),(6,pt n67),(18,.bool true)] rfl ⟨rfl,rfl,rfl,Aw (hL.2 0 _ rfl),Aw (hL.2 1 _ rfl),Aw (hL.2 2 _ rfl),(Bool.eq_false_iff.2 h69),Af⟩ ?_
   refine Eo 5 [0,1,2,3,4,5,6,7,8,9] [(Ak w),(CO z c),(D8 z),(CY z c),(QS z B1 B2 B3 cR b63),(caps 3 B1),(caps 3 B2),(caps 3 B3),(DR z n17),(UY c n67)] rfl rfl ?_
   refine D6 [(0,o0),(1,(a1 9)),(2,o0),(3,(an 2 9)),(4,o0)] [3,22,2] [Qb n67,Qb n67,Qb n67] (DC 5 1) [(C9 z),(22,.agg #[i6 ((Gx c).Ag.First),i6 ((Gx c).Ag.Second)]),(2,i6 ((Gx c).e))] ⟨rfl,rfl,rfl,Af⟩ ?_
   refine Bv 5 ?_
   refine BC (an 2 2) [3,2] [Qb (z+1),Qb (z+1)] [(C9 z),(2,i6 ((Gx c).e))] ⟨w,n67+1,[(Ak w),(CO z c),(ZN z c),(CY z c),(QS z B1 B2 B3 cR b63),(caps 3 B1),(caps 3 B2),(caps 3 B3),(DR z n17),(UY c n67)]⟩ [] ⟨rfl,rfl,Af⟩ (.inl rfl) ?_
   refine DV 6 [0,1,2,3,4,5,6,7,8,9] [(Ak w),(CO z c),(ZN z c),(CY z c),(QS z B1 B2 B3 cR b63),(caps 3 B1),(caps 3 B2),(caps 3 B3),(DR z n17),(UY c n67)] rfl rfl ?_
   refine Dl ?_
   refine BR [3,2] [(C9 z),(2,i6 ((Gx c).e))] ?_
   refine IV <| KP <| AO [.at 2,.at 2] [Qb (z+1),Qb (z+1)] (.tuple #[i6 ((Gx c).e),.agg #[i6 ((Gx c).Ag.First),i6 ((Gx c).Ag.Second)]]) ⟨rfl,rfl,Af⟩ ?_
   intro w70 hw70
   exact⟨congrArg (fun t:Am=>Ending.returned (.tuple #[i6 t.e,.agg #[i6 t.Ag.First,i6 t.Ag.Second]])) ((O3 (xs:=answers c) (k:=k) (by rw[Jm];omega) hf (by rw[ha];exact fun x=>h69 (F7.2 x))).trans ha).symm,Bi hw70⟩
  ·have hFr:=XZ hf (by omega)
   have hpf:∀ q,q<p→ED c q=D9:=fun q hq=>Xt hf (by omega) (by omega)
   refine JS (base:=z) (e:=109) (sz:=1) (cells:=(fun v:Value=>[v])) (a:=aR) (n:=((asks (z+2) B1 B2 B3).length)) (cap:=cR) (xs:=(asks (z+2) B1 B2 B3)) 4 (by omega) (fun b71 hg72 hb73 => ?_)
   subst hg72
   refine Az 5 1 [] [[(oi k),(oa [.via 4 (.func (.func 68) #[] #[pt (z+2),pt b])]),o0],[o0]] [DJ k,k<(asks (z+2) B1 B2 B3).length,Di,∀ w',Ch.holds (QP z B1 B2 B3 cR b71) w'→w'.cell? ⟨b71,0+k,none⟩=some (.func (.func 68) #[] #[pt (z+2),pt b])] [(C9 z),(SI z B1 B2 B3 cR b71),(DT z B1 B2 B3),(10,Ac k),(14,.func (.func 68) #[] #[pt (z+2),pt b])] rfl ⟨rfl,(by omega),rfl,FI (sz:=1) (j:=k) (k:=0) (fun _=>rfl) (by omega) (congrArg some hv),Af⟩ ?_
   refine BI 68 #[pt (z+2),pt b] (some 15) (.agg (Am.arr (ED c p))) (fun w74 hw74=>q6_calls w74 (hL.ext (hw74.ext rfl)) c (hc.ext (hw74.ext rfl) (fun _ h=>h)) (z+2) (Lu hw74 (i:=3)) b p (TM hw74 hb (i:=5)) hp hFr hpf) (fun n75 (hn76:n29≤n75) => ?_)
   refine Gi 3 0 [] [[o0,(an 3 9)]] [Qb n75,Qb n75,Qb n75] [(C9 z),(SI z B1 B2 B3 cR b71),(DT z B1 B2 B3),(10,Ac k),(6,pt n75)] ⟨w,n75+1,[(Ak w),(CO z c),(D8 z),(CY z c),(QP z B1 B2 B3 cR b71),(caps 3 B1),(caps 3 B2),(caps 3 B3),(DR z n17),(Vd c p n75)]⟩ rfl ⟨rfl,rfl,rfl,Af⟩ ?_
   by_cases h77:(((ED c p).e:Int)==(0:Int)&&((((ED c p).Ag.First:Int)==(0:Int)&&(((ED c p).Ag.Second:Int)==(0:Int)&&true))&&true))=true
   ·refine Az 9 0 [0] [[(an 3 9),(oa [.via 0 (i6 0),.via 0 (i6 0),.via 0 (i6 0)]),⟨.seq true,none⟩],[(ov (i6 ((k+1:Nat):Int))),o0]] [Qb n75,Qb n75,Qb n75,Old w 0 0 (i6 0),Old w 0 1 (i6 0),Old w 0 2 (i6 0),(((ED c p).e:Int)==(0:Int)&&((((ED c p).Ag.First:Int)==(0:Int)&&(((ED c p).Ag.Second:Int)==(0:Int)&&true))&&true))=true,Wr ((k:Int)+1) (((k+1:Nat):Int))] [(C9 z),(SI z B1 B2 B3 cR b71),(DT z B1 B2 B3),(IK k)] rfl ⟨rfl,rfl,rfl,Aw (hL.2 0 _ rfl),Aw (hL.2 1 _ rfl),Aw (hL.2 2 _ rfl),h77,CB,Af⟩ ?_
    refine BX [0,1,2,3,4,5,6,7,8] [(Ak w),(CO z c),(D8 z),(CY z c),(QP z B1 B2 B3 cR b71),(caps 3 B1),(caps 3 B2),(caps 3 B3),(DR z n17)] rfl rfl ?_
    refine BR [3,8,9,10] [(C9 z),(SI z B1 B2 B3 cR b71),(DT z B1 B2 B3),(IK k)] ?_
    refine Cf (fun a w' hs=>⟨(asks (z+2) B1 B2 B3).length - (k+1),by omega,(n75+1),(k+1),(some ⟨b71,0,none⟩),cR,rfl,by omega,by omega,Ha hf (by rw[ha];exact F7.1 h77),hs⟩)
   refine Az 5 0 [1] [[(an 3 9),(oa [.via 0 (i6 0),.via 0 (i6 0),.via 0 (i6 0)]),⟨.seq false,none⟩]] [Qb n75,Qb n75,Qb n75,Old w 0 0 (i6 0),Old w 0 1 (i6 0),Old w 0 2 (i6 0),(((ED c p).e:Int)==(0:Int)&&((((ED c p).Ag.First:Int)==(0:Int)&&(((ED c p).Ag.Second:Int)==(0:Int)&&true))&&true))=false] [(C9 z),(SI z B1 B2 B3 cR b71),(DT z B1 B2 B3),(10,Ac k),(6,pt n75),(18,.bool true)] rfl ⟨rfl,rfl,rfl,Aw (hL.2 0 _ rfl),Aw (hL.2 1 _ rfl),Aw (hL.2 2 _ rfl),(Bool.eq_false_iff.2 h77),Af⟩ ?_
   refine Eo 5 [0,1,2,3,4,5,6,7,8,9] [(Ak w),(CO z c),(D8 z),(CY z c),(QP z B1 B2 B3 cR b71),(caps 3 B1),(caps 3 B2),(caps 3 B3),(DR z n17),(Vd c p n75)] rfl rfl ?_
   refine D6 [(0,o0),(1,(a1 9)),(2,o0),(3,(an 2 9)),(4,o0)] [3,22,2] [Qb n75,Qb n75,Qb n75] (DC 5 1) [(C9 z),(22,.agg #[i6 ((ED c p).Ag.First),i6 ((ED c p).Ag.Second)]),(2,i6 ((ED c p).e))] ⟨rfl,rfl,rfl,Af⟩ ?_
   refine Bv 5 ?_
   refine BC (an 2 2) [3,2] [Qb (z+1),Qb (z+1)] [(C9 z),(2,i6 ((ED c p).e))] ⟨w,n75+1,[(Ak w),(CO z c),(Za1 z c p),(CY z c),(QP z B1 B2 B3 cR b71),(caps 3 B1),(caps 3 B2),(caps 3 B3),(DR z n17),(Vd c p n75)]⟩ [] ⟨rfl,rfl,Af⟩ (.inl rfl) ?_
   refine DV 6 [0,1,2,3,4,5,6,7,8,9] [(Ak w),(CO z c),(Za1 z c p),(CY z c),(QP z B1 B2 B3 cR b71),(caps 3 B1),(caps 3 B2),(caps 3 B3),(DR z n17),(Vd c p n75)] rfl rfl ?_
   refine Dl ?_
   refine BR [3,2] [(C9 z),(2,i6 ((ED c p).e))] ?_
   refine IV <| KP <| AO [.at 2,.at 2] [Qb (z+1),Qb (z+1)] (.tuple #[i6 ((ED c p).e),.agg #[i6 ((ED c p).Ag.First),i6 ((ED c p).Ag.Second)]]) ⟨rfl,rfl,Af⟩ ?_
   intro w78 hw78
   exact⟨congrArg (fun t:Am=>Ending.returned (.tuple #[i6 t.e,.agg #[i6 t.Ag.First,i6 t.Ag.Second]])) ((O3 (xs:=answers c) (k:=k) (by rw[Jm];omega) hf (by rw[ha];exact fun x=>h77 (F7.2 x))).trans ha).symm,Bi hw78⟩
  ·have hm:=parts_of hf (by omega);have hq:=ports_of hf (by omega)
   refine JS (base:=z) (e:=109) (sz:=1) (cells:=(fun v:Value=>[v])) (a:=aR) (n:=((asks (z+2) B1 B2 B3).length)) (cap:=cR) (xs:=(asks (z+2) B1 B2 B3)) 4 (by omega) (fun b79 hg80 hb81 => ?_)
   subst hg80
   refine Az 5 1 [] [[(oi k),(oa [.via 4 (.func (.func 70) #[] #[pt (z+2),pt b])]),o0],[o0]] [DJ k,k<(asks (z+2) B1 B2 B3).length,Di,∀ w',Ch.holds (QN z B1 B2 B3 cR b79) w'→w'.cell? ⟨b79,0+k,none⟩=some (.func (.func 70) #[] #[pt (z+2),pt b])] [(C9 z),(SG z B1 B2 B3 cR b79),(DT z B1 B2 B3),(10,Ac k),(14,.func (.func 70) #[] #[pt (z+2),pt b])] rfl ⟨rfl,(by omega),rfl,FI (sz:=1) (j:=k) (k:=0) (fun _=>rfl) (by omega) (congrArg some hv),Af⟩ ?_
   refine BI 70 #[pt (z+2),pt b] (some 15) (.agg (Am.arr (Ez c p))) (fun w82 hw82=>q7_calls w82 (hL.ext (hw82.ext rfl)) c (hc.ext (hw82.ext rfl) (fun _ h=>h)) (z+2) (Lu hw82 (i:=3)) b p (TM hw82 hb (i:=6)) hp hm hq) (fun n83 (hn84:n29≤n83) => ?_)
   refine Gi 3 0 [] [[o0,(an 3 9)]] [Qb n83,Qb n83,Qb n83] [(C9 z),(SG z B1 B2 B3 cR b79),(DT z B1 B2 B3),(10,Ac k),(6,pt n83)] ⟨w,n83+1,[(Ak w),(CO z c),(D8 z),(CY z c),(QN z B1 B2 B3 cR b79),(caps 3 B1),(caps 3 B2),(caps 3 B3),(DR z n17),(Vl c p n83)]⟩ rfl ⟨rfl,rfl,rfl,Af⟩ ?_
   by_cases h85:(((Ez c p).e:Int)==(0:Int)&&((((Ez c p).Ag.First:Int)==(0:Int)&&(((Ez c p).Ag.Second:Int)==(0:Int)&&true))&&true))=true
   ·refine Az 9 0 [0] [[(an 3 9),(oa [.via 0 (i6 0),.via 0 (i6 0),.via 0 (i6 0)]),⟨.seq true,none⟩],[(ov (i6 ((k+1:Nat):Int))),o0]] [Qb n83,Qb n83,Qb n83,Old w 0 0 (i6 0),Old w 0 1 (i6 0),Old w 0 2 (i6 0),(((Ez c p).e:Int)==(0:Int)&&((((Ez c p).Ag.First:Int)==(0:Int)&&(((Ez c p).Ag.Second:Int)==(0:Int)&&true))&&true))=true,Wr ((k:Int)+1) (((k+1:Nat):Int))] [(C9 z),(SG z B1 B2 B3 cR b79),(DT z B1 B2 B3),(IK k)] rfl ⟨rfl,rfl,rfl,Aw (hL.2 0 _ rfl),Aw (hL.2 1 _ rfl),Aw (hL.2 2 _ rfl),h85,CB,Af⟩ ?_
    refine BX [0,1,2,3,4,5,6,7,8] [(Ak w),(CO z c),(D8 z),(CY z c),(QN z B1 B2 B3 cR b79),(caps 3 B1),(caps 3 B2),(caps 3 B3),(DR z n17)] rfl rfl ?_
    refine BR [3,8,9,10] [(C9 z),(SG z B1 B2 B3 cR b79),(DT z B1 B2 B3),(IK k)] ?_
    refine Cf (fun a w' hs=>⟨(asks (z+2) B1 B2 B3).length - (k+1),by omega,(n83+1),(k+1),(some ⟨b79,0,none⟩),cR,rfl,by omega,by omega,Ha hf (by rw[ha];exact F7.1 h85),hs⟩)
   refine Az 5 0 [1] [[(an 3 9),(oa [.via 0 (i6 0),.via 0 (i6 0),.via 0 (i6 0)]),⟨.seq false,none⟩]] [Qb n83,Qb n83,Qb n83,Old w 0 0 (i6 0),Old w 0 1 (i6 0),Old w 0 2 (i6 0),(((Ez c p).e:Int)==(0:Int)&&((((Ez c p).Ag.First:Int)==(0:Int)&&(((Ez c p).Ag.Second:Int)==(0:Int)&&true))&&true))=false] [(C9 z),(SG z B1 B2 B3 cR b79),(DT z B1 B2 B3),(10,Ac k),(6,pt n83),(18,.bool true)] rfl ⟨rfl,rfl,rfl,Aw (hL.2 0 _ rfl),Aw (hL.2 1 _ rfl),Aw (hL.2 2 _ rfl),(Bool.eq_false_iff.2 h85),Af⟩ ?_
   refine Eo 5 [0,1,2,3,4,5,6,7,8,9] [(Ak w),(CO z c),(D8 z),(CY z c),(QN z B1 B2 B3 cR b79),(caps 3 B1),(caps 3 B2),(caps 3 B3),(DR z n17),(Vl c p n83)] rfl rfl ?_
   refine D6 [(0,o0),(1,(a1 9)),(2,o0),(3,(an 2 9)),(4,o0)] [3,22,2] [Qb n83,Qb n83,Qb n83] (DC 5 1) [(C9 z),(22,.agg #[i6 ((Ez c p).Ag.First),i6 ((Ez c p).Ag.Second)]),(2,i6 ((Ez c p).e))] ⟨rfl,rfl,rfl,Af⟩ ?_
   refine Bv 5 ?_
   refine BC (an 2 2) [3,2] [Qb (z+1),Qb (z+1)] [(C9 z),(2,i6 ((Ez c p).e))] ⟨w,n83+1,[(Ak w),(CO z c),(Zba z c p),(CY z c),(QN z B1 B2 B3 cR b79),(caps 3 B1),(caps 3 B2),(caps 3 B3),(DR z n17),(Vl c p n83)]⟩ [] ⟨rfl,rfl,Af⟩ (.inl rfl) ?_
   refine DV 6 [0,1,2,3,4,5,6,7,8,9] [(Ak w),(CO z c),(Zba z c p),(CY z c),(QN z B1 B2 B3 cR b79),(caps 3 B1),(caps 3 B2),(caps 3 B3),(DR z n17),(Vl c p n83)] rfl rfl ?_
   refine Dl ?_
   refine BR [3,2] [(C9 z),(2,i6 ((Ez c p).e))] ?_
   refine IV <| KP <| AO [.at 2,.at 2] [Qb (z+1),Qb (z+1)] (.tuple #[i6 ((Ez c p).e),.agg #[i6 ((Ez c p).Ag.First),i6 ((Ez c p).Ag.Second)]]) ⟨rfl,rfl,Af⟩ ?_
   intro w86 hw86
   exact⟨congrArg (fun t:Am=>Ending.returned (.tuple #[i6 t.e,.agg #[i6 t.Ag.First,i6 t.Ag.Second]])) ((O3 (xs:=answers c) (k:=k) (by rw[Jm];omega) hf (by rw[ha];exact fun x=>h85 (F7.2 x))).trans ha).symm,Bi hw86⟩
  ·refine JS (base:=z) (e:=109) (sz:=1) (cells:=(fun v:Value=>[v])) (a:=aR) (n:=((asks (z+2) B1 B2 B3).length)) (cap:=cR) (xs:=(asks (z+2) B1 B2 B3)) 4 (by omega) (fun b87 hg88 hb89 => ?_)
   subst hg88
   refine Az 5 1 [] [[(oi k),(oa [.via 4 (.func (.func 72) #[] #[pt (z+2),pt b])]),o0],[o0]] [DJ k,k<(asks (z+2) B1 B2 B3).length,Di,∀ w',Ch.holds (QA z B1 B2 B3 cR b87) w'→w'.cell? ⟨b87,0+k,none⟩=some (.func (.func 72) #[] #[pt (z+2),pt b])] [(C9 z),(TI z B1 B2 B3 cR b87),(DT z B1 B2 B3),(10,Ac k),(14,.func (.func 72) #[] #[pt (z+2),pt b])] rfl ⟨rfl,(by omega),rfl,FI (sz:=1) (j:=k) (k:=0) (fun _=>rfl) (by omega) (congrArg some hv),Af⟩ ?_
   refine BI 72 #[pt (z+2),pt b] (some 15) (.agg (Am.arr (Gq c p))) (fun w90 hw90=>q8_calls w90 (hL.ext (hw90.ext rfl)) c (hc.ext (hw90.ext rfl) (fun _ h=>h)) (z+2) (Lu hw90 (i:=3)) b p (TM hw90 hb (i:=7)) hp) (fun n91 (hn92:n29≤n91) => ?_)
   refine Gi 3 0 [] [[o0,(an 3 9)]] [Qb n91,Qb n91,Qb n91] [(C9 z),(TI z B1 B2 B3 cR b87),(DT z B1 B2 B3),(10,Ac k),(6,pt n91)] ⟨w,n91+1,[(Ak w),(CO z c),(D8 z),(CY z c),(QA z B1 B2 B3 cR b87),(caps 3 B1),(caps 3 B2),(caps 3 B3),(DR z n17),(UO c p n91)]⟩ rfl ⟨rfl,rfl,rfl,Af⟩ ?_
   by_cases h93:(((Gq c p).e:Int)==(0:Int)&&((((Gq c p).Ag.First:Int)==(0:Int)&&(((Gq c p).Ag.Second:Int)==(0:Int)&&true))&&true))=true
   ·refine Az 9 0 [0] [[(an 3 9),(oa [.via 0 (i6 0),.via 0 (i6 0),.via 0 (i6 0)]),⟨.seq true,none⟩],[(ov (i6 ((k+1:Nat):Int))),o0]] [Qb n91,Qb n91,Qb n91,Old w 0 0 (i6 0),Old w 0 1 (i6 0),Old w 0 2 (i6 0),(((Gq c p).e:Int)==(0:Int)&&((((Gq c p).Ag.First:Int)==(0:Int)&&(((Gq c p).Ag.Second:Int)==(0:Int)&&true))&&true))=true,Wr ((k:Int)+1) (((k+1:Nat):Int))] [(C9 z),(TI z B1 B2 B3 cR b87),(DT z B1 B2 B3),(IK k)] rfl ⟨rfl,rfl,rfl,Aw (hL.2 0 _ rfl),Aw (hL.2 1 _ rfl),Aw (hL.2 2 _ rfl),h93,CB,Af⟩ ?_
    refine BX [0,1,2,3,4,5,6,7,8] [(Ak w),(CO z c),(D8 z),(CY z c),(QA z B1 B2 B3 cR b87),(caps 3 B1),(caps 3 B2),(caps 3 B3),(DR z n17)] rfl rfl ?_
    refine BR [3,8,9,10] [(C9 z),(TI z B1 B2 B3 cR b87),(DT z B1 B2 B3),(IK k)] ?_
    refine Cf (fun a w' hs=>⟨(asks (z+2) B1 B2 B3).length - (k+1),by omega,(n91+1),(k+1),(some ⟨b87,0,none⟩),cR,rfl,by omega,by omega,Ha hf (by rw[ha];exact F7.1 h93),hs⟩)
   refine Az 5 0 [1] [[(an 3 9),(oa [.via 0 (i6 0),.via 0 (i6 0),.via 0 (i6 0)]),⟨.seq false,none⟩]] [Qb n91,Qb n91,Qb n91,Old w 0 0 (i6 0),Old w 0 1 (i6 0),Old w 0 2 (i6 0),(((Gq c p).e:Int)==(0:Int)&&((((Gq c p).Ag.First:Int)==(0:Int)&&(((Gq c p).Ag.Second:Int)==(0:Int)&&true))&&true))=false] [(C9 z),(TI z B1 B2 B3 cR b87),(DT z B1 B2 B3),(10,Ac k),(6,pt n91),(18,.bool true)] rfl ⟨rfl,rfl,rfl,Aw (hL.2 0 _ rfl),Aw (hL.2 1 _ rfl),Aw (hL.2 2 _ rfl),(Bool.eq_false_iff.2 h93),Af⟩ ?_
   refine Eo 5 [0,1,2,3,4,5,6,7,8,9] [(Ak w),(CO z c),(D8 z),(CY z c),(QA z B1 B2 B3 cR b87),(caps 3 B1),(caps 3 B2),(caps 3 B3),(DR z n17),(UO c p n91)] rfl rfl ?_
   refine D6 [(0,o0),(1,(a1 9)),(2,o0),(3,(an 2 9)),(4,o0)] [3,22,2] [Qb n91,Qb n91,Qb n91] (DC 5 1) [(C9 z),(22,.agg #[i6 ((Gq c p).Ag.First),i6 ((Gq c p).Ag.Second)]),(2,i6 ((Gq c p).e))] ⟨rfl,rfl,rfl,Af⟩ ?_
   refine Bv 5 ?_
   refine BC (an 2 2) [3,2] [Qb (z+1),Qb (z+1)] [(C9 z),(2,i6 ((Gq c p).e))] ⟨w,n91+1,[(Ak w),(CO z c),(ZaD z c p),(CY z c),(QA z B1 B2 B3 cR b87),(caps 3 B1),(caps 3 B2),(caps 3 B3),(DR z n17),(UO c p n91)]⟩ [] ⟨rfl,rfl,Af⟩ (.inl rfl) ?_
   refine DV 6 [0,1,2,3,4,5,6,7,8,9] [(Ak w),(CO z c),(ZaD z c p),(CY z c),(QA z B1 B2 B3 cR b87),(caps 3 B1),(caps 3 B2),(caps 3 B3),(DR z n17),(UO c p n91)] rfl rfl ?_
   refine Dl ?_
   refine BR [3,2] [(C9 z),(2,i6 ((Gq c p).e))] ?_
   refine IV <| KP <| AO [.at 2,.at 2] [Qb (z+1),Qb (z+1)] (.tuple #[i6 ((Gq c p).e),.agg #[i6 ((Gq c p).Ag.First),i6 ((Gq c p).Ag.Second)]]) ⟨rfl,rfl,Af⟩ ?_
   intro w94 hw94
   exact⟨congrArg (fun t:Am=>Ending.returned (.tuple #[i6 t.e,.agg #[i6 t.Ag.First,i6 t.Ag.Second]])) ((O3 (xs:=answers c) (k:=k) (by rw[Jm];omega) hf (by rw[ha];exact fun x=>h93 (F7.2 x))).trans ha).symm,Bi hw94⟩
  have hFr:=XZ hf (by omega)
  have hpf:∀ q,q<c.Aa.xs.length→ED c q=D9:=fun q hq=>Xt hf hq (by omega)
  refine JS (base:=z) (e:=109) (sz:=1) (cells:=(fun v:Value=>[v])) (a:=aR) (n:=((asks (z+2) B1 B2 B3).length)) (cap:=cR) (xs:=(asks (z+2) B1 B2 B3)) 4 (by omega) (fun b95 hg96 hb97 => ?_)
  subst hg96
  refine Az 5 1 [] [[(oi k),(oa [.via 4 (.func (.func 74) #[] #[pt (z+2)])]),o0],[o0]] [DJ k,k<(asks (z+2) B1 B2 B3).length,Di,∀ w',Ch.holds (Rh z B1 B2 B3 cR b95) w'→w'.cell? ⟨b95,0+k,none⟩=some (.func (.func 74) #[] #[pt (z+2)])] [(C9 z),(TJ z B1 B2 B3 cR b95),(DT z B1 B2 B3),(10,Ac k),(14,.func (.func 74) #[] #[pt (z+2)])] rfl ⟨rfl,(by omega),rfl,FI (sz:=1) (j:=k) (k:=0) (fun _=>rfl) (by omega) (congrArg some hv),Af⟩ ?_
  refine BI 74 #[pt (z+2)] (some 15) (.agg (Am.arr (I4 c))) (fun w98 hw98=>q9_calls w98 (hL.ext (hw98.ext rfl)) c (hc.ext (hw98.ext rfl) (fun _ h=>h)) (z+2) (Lu hw98 (i:=3)) hFr hpf) (fun n99 (hn100:n29≤n99) => ?_)
  refine Gi 3 0 [] [[o0,(an 3 9)]] [Qb n99,Qb n99,Qb n99] [(C9 z),(TJ z B1 B2 B3 cR b95),(DT z B1 B2 B3),(10,Ac k),(6,pt n99)] ⟨w,n99+1,[(Ak w),(CO z c),(D8 z),(CY z c),(Rh z B1 B2 B3 cR b95),(caps 3 B1),(caps 3 B2),(caps 3 B3),(DR z n17),(UH c n99)]⟩ rfl ⟨rfl,rfl,rfl,Af⟩ ?_
  by_cases h101:(((I4 c).e:Int)==(0:Int)&&((((I4 c).Ag.First:Int)==(0:Int)&&(((I4 c).Ag.Second:Int)==(0:Int)&&true))&&true))=true
  ·refine Az 9 0 [0] [[(an 3 9),(oa [.via 0 (i6 0),.via 0 (i6 0),.via 0 (i6 0)]),⟨.seq true,none⟩],[(ov (i6 ((k+1:Nat):Int))),o0]] [Qb n99,Qb n99,Qb n99,Old w 0 0 (i6 0),Old w 0 1 (i6 0),Old w 0 2 (i6 0),(((I4 c).e:Int)==(0:Int)&&((((I4 c).Ag.First:Int)==(0:Int)&&(((I4 c).Ag.Second:Int)==(0:Int)&&true))&&true))=true,Wr ((k:Int)+1) (((k+1:Nat):Int))] [(C9 z),(TJ z B1 B2 B3 cR b95),(DT z B1 B2 B3),(IK k)] rfl ⟨rfl,rfl,rfl,Aw (hL.2 0 _ rfl),Aw (hL.2 1 _ rfl),Aw (hL.2 2 _ rfl),h101,CB,Af⟩ ?_
   refine BX [0,1,2,3,4,5,6,7,8] [(Ak w),(CO z c),(D8 z),(CY z c),(Rh z B1 B2 B3 cR b95),(caps 3 B1),(caps 3 B2),(caps 3 B3),(DR z n17)] rfl rfl ?_
   refine BR [3,8,9,10] [(C9 z),(TJ z B1 B2 B3 cR b95),(DT z B1 B2 B3),(IK k)] ?_
   refine Cf (fun a w' hs=>⟨(asks (z+2) B1 B2 B3).length - (k+1),by omega,(n99+1),(k+1),(some ⟨b95,0,none⟩),cR,rfl,by omega,by omega,Ha hf (by rw[ha];exact F7.1 h101),hs⟩)
  refine Az 5 0 [1] [[(an 3 9),(oa [.via 0 (i6 0),.via 0 (i6 0),.via 0 (i6 0)]),⟨.seq false,none⟩]] [Qb n99,Qb n99,Qb n99,Old w 0 0 (i6 0),Old w 0 1 (i6 0),Old w 0 2 (i6 0),(((I4 c).e:Int)==(0:Int)&&((((I4 c).Ag.First:Int)==(0:Int)&&(((I4 c).Ag.Second:Int)==(0:Int)&&true))&&true))=false] [(C9 z),(TJ z B1 B2 B3 cR b95),(DT z B1 B2 B3),(10,Ac k),(6,pt n99),(18,.bool true)] rfl ⟨rfl,rfl,rfl,Aw (hL.2 0 _ rfl),Aw (hL.2 1 _ rfl),Aw (hL.2 2 _ rfl),(Bool.eq_false_iff.2 h101),Af⟩ ?_
  refine Eo 5 [0,1,2,3,4,5,6,7,8,9] [(Ak w),(CO z c),(D8 z),(CY z c),(Rh z B1 B2 B3 cR b95),(caps 3 B1),(caps 3 B2),(caps 3 B3),(DR z n17),(UH c n99)] rfl rfl ?_
  refine D6 [(0,o0),(1,(a1 9)),(2,o0),(3,(an 2 9)),(4,o0)] [3,22,2] [Qb n99,Qb n99,Qb n99] (DC 5 1) [(C9 z),(22,.agg #[i6 ((I4 c).Ag.First),i6 ((I4 c).Ag.Second)]),(2,i6 ((I4 c).e))] ⟨rfl,rfl,rfl,Af⟩ ?_
  refine Bv 5 ?_
  refine BC (an 2 2) [3,2] [Qb (z+1),Qb (z+1)] [(C9 z),(2,i6 ((I4 c).e))] ⟨w,n99+1,[(Ak w),(CO z c),(Zz z c),(CY z c),(Rh z B1 B2 B3 cR b95),(caps 3 B1),(caps 3 B2),(caps 3 B3),(DR z n17),(UH c n99)]⟩ [] ⟨rfl,rfl,Af⟩ (.inl rfl) ?_
  refine DV 6 [0,1,2,3,4,5,6,7,8,9] [(Ak w),(CO z c),(Zz z c),(CY z c),(Rh z B1 B2 B3 cR b95),(caps 3 B1),(caps 3 B2),(caps 3 B3),(DR z n17),(UH c n99)] rfl rfl ?_
  refine Dl ?_
  refine BR [3,2] [(C9 z),(2,i6 ((I4 c).e))] ?_
  refine IV <| KP <| AO [.at 2,.at 2] [Qb (z+1),Qb (z+1)] (.tuple #[i6 ((I4 c).e),.agg #[i6 ((I4 c).Ag.First),i6 ((I4 c).Ag.Second)]]) ⟨rfl,rfl,Af⟩ ?_
  intro w102 hw102
  exact⟨congrArg (fun t:Am=>Ending.returned (.tuple #[i6 t.e,.agg #[i6 t.Ag.First,i6 t.Ag.Second]])) ((O3 (xs:=answers c) (k:=k) (by rw[Jm];omega) hf (by rw[ha];exact fun x=>h101 (F7.2 x))).trans ha).symm,Bi hw102⟩
 refine Az 15 0 [0] [[oF],[o0,o0,(an 2 2)]] [BF ((k:Int)<(((asks (z+2) B1 B2 B3).length:Nat):Int)),Qb (z+1),Qb (z+1)] [(C9 z),(2,i6 0)] rfl ⟨bf,rfl,rfl,Af⟩ ?_
 refine AO [.at 2,.at 2] [Qb (z+1),Qb (z+1)] (.tuple #[i6 0,.agg #[i6 0,i6 0]]) ⟨rfl,rfl,Af⟩ ?_
 intro w103 hw103
 exact⟨congrArg (fun t:Am=>Ending.returned (.tuple #[i6 t.e,.agg #[i6 t.Ag.First,i6 t.Ag.Second]])) (ZL (xs:=answers c) (fun i hi=>hf i (by rw[Jm]at hi;omega))).symm,Bi hw103⟩
end Go.Proofs.YtjdmhijaanmccaaDoor.Ad
namespace Go.Proofs.YtjdmhijaanmccaaDoor.Eng
open Go Go.ChangeShapes Go.WideShapes Go.Deep
set_option linter.unusedSimpArgs false
set_option linter.unusedVariables false
section
variable {P:Program}{t:TypeId}
theorem cs1{cs:List Value}(h:cs.length=1):∃ a,cs=[a]:=match cs,h with | [a],_=>⟨a,rfl⟩
end
open Go Go.Proofs.YtjdmhijaanmccaaDoor.Mem
section
variable {P:Program}{N:Nat}{env:Env}{ds:List Deferred}{A:AW}{ops:Array Oper}{l:List Oper}{s:List Kt}{Q:Exit→Act→World→Prop}
def Xq(o:Oper):Option (Operand×TypeId):=match o.op with
 | .call c=>match c.callee,c.args.toList,c.argTypes.toList with
  | .builtin .clear,[x],[t]=>some (x,t)
  | _,_,_=>none
 | _=>none
theorem Yw{o:Oper}{x:Operand}{t:TypeId}(h:Xq o=some (x,t)):o.op = .call { callee:= .builtin .clear,args:= #[x],argTypes:= #[t] }:=by
 unfold Xq at h
 split at h
 ·rename_i c hop
  split at h
  ·rename_i x' t' h1 h2 h3
   simp only[Option.some.injEq,Prod.mk.injEq]at h
   obtain⟨rfl,rfl⟩:=h
   obtain⟨c1,c2,c3⟩:=c
   simp only at h1 h2 h3
   rw[hop,h1]
   congr 2
   ·apply Array.ext';rw[h2]
   apply Array.ext';rw[h3]
  cases h
 cases h
def Yy(P:Program)(N:Nat)(ops:Array Oper)(env:Env)(o:Oper):Option (TypeId×Nat×Value×Nat×Nat×Nat):=match Xq o,NY ops env o,Le env o,NK N o.dst with
 | some (x,t),some true,true,true=>match P.underlying t,Js env x with
  | some (.slice e),.slice (some ⟨g,0,none⟩) n c=>match P.info? e with
   | some f=>match f.zero with
    | some z=>match Nat.beq z.cells.size f.size&&Nat.blt 0 f.size with
     | true=>some (e,f.size,z,g,n,c)
     | false=>none
    | none=>none
   | none=>none
  | _,_=>none
 | _,_,_,_=>none
theorem ZaK{P:Program}(w:World)(t ty elem:TypeId)(g n cap:Nat)(z:Value)(f:TypeInfo)(cur:Array Value)(te:TypeId)
   (hu:P.underlying t=some (.slice elem)) (hf:P.info? elem=some f) (hz:f.zero=some z) (hg:w.heap[g]? = some (.cells cur te (0,0))) (hfit:n*z.cells.size≤cur.size) (h1:∀ v∈z.cells.toList,v.oneCell'=true) (hp:0<z.cells.size) :
   (Builtin.clear_ #[t] ty #[.slice (some ⟨g,0,none⟩) n cap]).run P w =
     .ok (.tuple #[]) (w.setRow g (((List.replicate n z.cells.toList).flatten)++cur.toList.drop (n*z.cells.size)).toArray):=by
 have hfl:=Uz hp n
 have hzc:(Builtin.zeroCells z.cells n).toList=(List.replicate n z.cells.toList).flatten:=hfl
 by_cases h0:n=0
 · subst h0
   simp only[Builtin.clear_,List.getElem?_toArray,List.getElem?_cons_zero,run_underlying hu,Sem.run_bind,Sem.run_pure,Result.andThen_ok]
   simp[Sem.run,setRow_self w g cur te (0,0) hg]
 · have hlen:((List.replicate n z.cells.toList).flatten).length=n*z.cells.size:=by simp
   have hst:=run_storeCells_at P g 0 te ((List.replicate n z.cells.toList).flatten) 0 cur w hg (by rw[hlen];omega) (fun v hv=>by
     obtain⟨l,hl,hv⟩:=List.mem_flatten.1 hv
     rw[List.eq_of_mem_replicate hl]at hv
     exact h1 v hv)
   rw[hlen]at hst
   simp only[Nat.zero_add,List.take_zero,List.nil_append]at hst
   obtain⟨m,rfl⟩:=Nat.exists_eq_succ_of_ne_zero h0
   simp[Builtin.clear_,run_underlying hu,zeroValue,typeInfo,hf,hz,hzc,hst]
theorem Zau{α:Type}{base:Nat}{o:Oper}{e:TypeId}{sz g n c':Nat}{z:Value}(h:Yy P N ops env o=some (e,sz,z,g,n,c')){i:Nat}{cells:α→List Value}{xs:List α}{zt:α}{a:Act}{w:World}(hst:St N env ds A a w)
   (hi:A.σ[i]? = some (Ci base e sz cells (.slice (some ⟨g,0,none⟩) n c') xs)) (hz:z.cells.toList=cells zt) (h1:∀ u∈cells zt,u.oneCell'=true) (hx:xs=List.replicate n zt) :
   Region.wanted o (yielded ops a.tmps)=true∧NK N o.dst=true∧(execOp a.eval o).run P w = .ok (.value (.tuple #[])) w:=by
 unfold Yy at h
 split at h
 · rename_i x t hop0 hw hk hd0
   have hop:=Yw hop0
   split at h
   · rename_i e' g' n' c2 ht hxv
     split at h
     · rename_i f hf
       split at h
       · rename_i z' hz'
         split at h
         · rename_i hsz
           simp only[Option.some.injEq,Prod.mk.injEq]at h
           obtain⟨rfl,rfl,rfl,rfl,rfl,rfl⟩:=h
           rw[Bool.and_eq_true]at hsz
           have hs1:=Nat.eq_of_beq_eq_true hsz.1
           have hs2:0<f.size:=by simpa using hsz.2
           refine⟨Gm hw hst,hd0, ?_⟩
           rw[Jn hst hk]
           subst hx
           have hown:w.ownsRow base e' f.size (.slice (some ⟨g',0,none⟩) n' c2) (List.replicate n' zt).length ((List.replicate n' zt).flatMap cells):=hst.mem.at hi
           rw[List.length_replicate]at hown
           rcases hown.2 with⟨h2,h3⟩ | ⟨g2,cap2,cur,h2,hbg,hg,hnc,hcm,hcs,htake⟩
           · cases h2
           · cases h2
             have hms:n' * f.size≤cur.size:=by rw[hcs];exact Nat.mul_le_mul_right _ hnc
             have hr:=ZaK (P:=P) w t o.type e' g' n' c2 z' f cur e' ht hf hz' hg (by rw[hs1];exact hms) (fun v hv=>h1 v (by rw[←hz];exact hv)) (by rw[hs1];exact hs2)
             have hsame:((List.replicate n' z'.cells.toList).flatten++cur.toList.drop (n' * z'.cells.size)).toArray=cur:=by
               rw[hz,VL,←htake,hs1,List.take_append_drop]
             rw[hsame,setRow_self w g' cur e' (0,0) hg]at hr
             unfold execOp
             simp only[hop,resolve,invoke,builtin,Sem.run_bind,Sem.run_pure,Result.andThen_ok,List.map_toArray,List.map_cons,List.map_nil,hxv,hr]
         · cases h
       · cases h
     · cases h
   · cases h
 · cases h
theorem l_clear{α:Type}(base i:Nat)(xs:List α)(zt:α)(cells:α→List Value)(e:TypeId)(sz g n c':Nat)(z:Value)(d:Option Nat)(hx:xs=List.replicate n zt)
   (K:Lg P N (Hg env d (.tuple #[])) ds A ops (l.drop 1) s Q)
   (h:(match l with | o :: _=>(Yy P N ops env o).map (fun x=>(x,o.dst)) | []=>none)=some ((e,sz,z,g,n,c'),d):=by as_aux_lemma=>kernel_rfl) (hi:A.σ[i]? = some (Ci base e sz cells (.slice (some ⟨g,0,none⟩) n c') xs):=by rfl) (hz:z.cells.toList=cells zt:=by rfl) (h1:(cells zt).all Value.oneCell'=true:=by rfl):Lg P N env ds A ops l s Q:=by
 intro a w hst
 cases l with
 | nil=>cases h
 | cons o l =>
   simp only[Option.map_eq_some_iff]at h
   obtain⟨y,hy,h⟩:=h
   simp only[Prod.mk.injEq]at h
   obtain⟨rfl,rfl⟩:=h
   obtain⟨hw,hdst,hr⟩:=Zau (xs:=xs) hy hst hi hz (fun u hu=>List.all_eq_true.1 h1 u hu) hx
   refine Nq hw (.inl hr) ?_
   exact K _ _ (hst.put hst.mem _ hdst _)
end
open Go Go.Proofs.YtjdmhijaanmccaaDoor.Mem
section
variable {P:Program}{N:Nat}{env:Env}{ds:List Deferred}{A:AW}{s:List Kt}{Q:Exit→Act→World→Prop}
theorem VP{c:Code}(n:Nat)(h:G P N env ds A c (.inv (Code.rounds P c (QQ P s Q) n) :: s) Q):G P N env ds A (.loop c) s Q :=
 fun a w hs=>wp_loop_rounds (n+1) (h a w hs)
theorem VS{c:Code}{n:Nat}(h:G P N env ds A c (.inv (Code.rounds P c (QQ P s Q) n) :: s) Q):E P N env ds A .normal (.inv (Code.rounds P c (QQ P s Q) (n+1)) :: s) Q :=
 fun a w hs=>h a w hs
end
end Go.Proofs.YtjdmhijaanmccaaDoor.Eng
namespace Go.Proofs.YtjdmhijaanmccaaDoor.Dv
open Go Go.Proofs.YtjdmhijaanmccaaDoor.Eng Go.Proofs.YtjdmhijaanmccaaDoor.Mem Go.Proofs.YtjdmhijaanmccaaDoor.Ly Go.Proofs.YtjdmhijaanmccaaDoor.Ad
set_option linter.unusedSimpArgs false
set_option linter.unusedVariables false
set_option maxRecDepth 100000
def Zam(n mq:Nat)(aW:Option Addr)(nW cW:Nat)(W:List Int):List Ch:=[.blk mq (.cells #[.slice aW nW cW] 81 (0,0)) true,Ci n 54 1 (fun x:Int=>[Value.int .u32 x]) (.slice aW nW cW) W]
theorem Ug(w:World)(nF:Nat)(hF1:1≤nF)(hF2:nF≤1024):Calls Tryd.prog 10 #[.int .i64 (nF:Int)] w fun e w'=>∃ mq aW cW,e = .returned (.tuple #[.pointer (some ⟨mq,0,none⟩),.int .i64 0])∧w.heap.size≤mq∧∃ w0,Sat ⟨w0,w'.heap.size,Zam w.heap.size mq aW (nF*16) cW (List.replicate (nF*16) 0)⟩ w'∧CZ (fun _=>False) w w':=by
 obtain⟨z,hz⟩:∃ z,z=w.heap.size:=⟨_,rfl⟩
 refine Cb (args:=[(Ac nF)]) 18 ⟨w,z,[(Ak w)]⟩ Tryd.func10 rfl (by kernel_rfl) (by kernel_rfl) (ES hz) ?_
 refine Ee [0] [(0,Ac nF)] ?_
 refine Az 14 2 [0] [[o0,o0],[o0,oF,o0,o0,oF,o0],[o0,(ov (i6 ((nF*16:Nat):Int)))]] [BF ((nF:Int)<1),BF ((nF:Int) > 1024),Wr ((nF:Int)*16) (((nF*16:Nat):Int))] [(12,i6 ((nF*16:Nat):Int))] rfl ⟨bf,bf,CB,Af⟩ ?_
 refine l_make z (nF*16) 0 (fun x:Int=>[Value.int .u32 x]) 54 1 4 (.int .u32 0) (((nF*16:Nat):Int):Int) (((nF*16:Nat):Int):Int) (some 13) rfl rfl (by omega) (show z≤z by omega) (fun n1 (hn2:z+1≤n1) => ?_)
 refine Cc 4 1 [] [[o0],[o0]] [] [(4,.slice (some ⟨z,0,none⟩) (nF*16) (nF*16)),(14,.slice (some ⟨z,0,none⟩) (nF*16) (nF*16))] rfl Af ?_
 refine l_clear z 1 (List.replicate (nF*16) 0) 0 (fun x:Int=>[Value.int .u32 x]) 54 1 z (nF*16) (nF*16) (.int .u32 0) none rfl ?_
 refine Gi 7 0 [] [[],[o0,o0,o0,o0,o0]] [] [(2,pt n1),(3,i6 0)] ⟨w,n1+1,[(Ak w),(Ci z 54 1 (fun x:Int=>[Value.int .u32 x]) (.slice (some ⟨z,0,none⟩) (nF*16) (nF*16)) (List.replicate (nF*16) 0)),(bk n1 #[.slice (some ⟨z,0,none⟩) (nF*16) (nF*16)] 81)]⟩ rfl Af ?_
 refine AO [] [] (.tuple #[pt n1,i6 0]) Af ?_
 intro w3 hw3
 have h4:=hw3.pick [2,1] rfl rfl
 skip
 rw[←hz]
 exact⟨n1,(some ⟨z,0,none⟩),nF*16,rfl,(show z≤n1 by omega),w,by rw[hw3.size];exact h4,Bi hw3⟩
end Go.Proofs.YtjdmhijaanmccaaDoor.Dv
namespace Go.Proofs.YtjdmhijaanmccaaDoor.Ad
open Go Go.Proofs.YtjdmhijaanmccaaDoor.Eng Go.Proofs.YtjdmhijaanmccaaDoor.Mem Go.Proofs.YtjdmhijaanmccaaDoor.Ly
set_option linter.unusedSimpArgs false
set_option linter.unusedVariables false
set_option maxRecDepth 100000
theorem Ld{α:Type}[Inhabited α]{A:AW}{w:World}(h:Sat A w){cells:α→List Value}{sz:Nat}{ok:(Nat→Prop)→World→α→Prop}(hsz:∀ x,(cells x).length=sz){i b:Nat}{t:TypeId}{cs:Array Value}(xs:List α)(hok:∀ i,i<xs.length→ok Any w (gd xs i))(hi:A.σ[i]? = some (.blk b (.cells cs t (0,0)) true):=by rfl)(hx:xs.flatMap cells=cs.toList:=by rfl)(hl:cs.size=xs.length*sz:=by rfl)(hm:Nat.ble xs.length 1000=true:=by rfl):J7 cells sz ok Any w ⟨some ⟨b,0,none⟩,xs.length,xs⟩:=by
 have hle:=Nat.le_of_ble_eq_true hm
 have h1:=h.WS hi hx hl (Nat.zero_le b) (Nat.le_trans hle (by decide))
 have hlt:i<A.σ.length:=(List.getElem?_eq_some_iff.1 hi).1
 have h0:w.ownsRow 0 t sz (.slice (some ⟨b,0,none⟩) xs.length xs.length) xs.length (xs.flatMap cells):=h1.at (i:=i) (c:=Ci 0 t sz cells (.slice (some ⟨b,0,none⟩) xs.length xs.length) xs) (by show(A.σ.set i _)[i]? = _;rw[List.getElem?_set_self hlt])
 have h2:=Qp (cells:=cells) (sz:=sz) hsz h0 (Nat.le_trans hle (by decide))
 refine⟨⟨h2.len,h2.le,fun hne => ?_⟩,hok⟩
 obtain⟨b',off,ha, -,hh⟩:=h2.cells hne
 exact⟨b',off,ha,Af,hh⟩
theorem Nb{α:Type}[Inhabited α]{p:α→Prop}:∀ i,i<([]:List α).length→p (gd [] i):=fun i hi=>absurd hi (Nat.not_lt_zero i)
theorem KZ{α:Type}[Inhabited α]{p:α→Prop}{x:α}{r:List α}(h:p x)(hr:∀ i,i<r.length→p (gd r i)):∀ i,i<(x :: r).length→p (gd (x :: r) i)
 | 0,_=>h
 | i+1,hi=>hr i (by simpa using hi)
theorem Ej{n:Int}(h1:(-9223372036854775808:Int)≤n:=by decide)(h2:n≤9223372036854775807:=by decide):HY .i64 n:=⟨h1,h2⟩
theorem check_at(w:World)(hL:Iq w)(c:Aj)(hc:Aj.ok Any w c)(hS:c.Aa.xs.length+c.Ah.xs.length+c.Dk.xs.length≤15000000000000)(n:Int)(hn:(Wv c).e=n):Calls Tryd.prog 17 #[.agg (Aj.arr c)] w fun e w'=>∃ W:Ja,e = .returned (.tuple #[.int .i64 n,.agg (Ja.arr W)])∧CZ (fun _=>False) w w':=by
 subst hn
 exact(Zn w hL c hc hS).mono fun e w' h=>⟨_,h.1,h.2⟩
section
variable (c:Aj)
variable {c}
theorem ZaM{p:Nat→Bool}{n:Nat}(h:(List.range n).any p=false){k:Nat}(hk:k<n):p k=false:=by
 rw[List.any_eq_false]at h
 have:=h k (List.mem_range.2 hk)
 simpa using this
end
end Go.Proofs.YtjdmhijaanmccaaDoor.Ad
namespace Go.Proofs.YtjdmhijaanmccaaDoor.Dv
open Go Go.Proofs.YtjdmhijaanmccaaDoor.Eng Go.Proofs.YtjdmhijaanmccaaDoor.Mem Go.Proofs.YtjdmhijaanmccaaDoor.Ly Go.Proofs.YtjdmhijaanmccaaDoor.Ad
set_option linter.unusedSimpArgs false
set_option linter.unusedVariables false
set_option maxRecDepth 100000
theorem state_is{c:Aj}{L:FK}(hI:Ud c L){i:Nat}(hi:i<c.Aa.xs.length):(gd L.Aa.xs i).State=c.Kernel*16+21+24*(i:Int):=by
 obtain⟨_,_,h⟩:=hI.ps i hi
 rw[h]
 show CG c i+2+17=_
 unfold CG;omega
structure XI(nP nW:Nat)(fr:Int)(O A W:List Int):Prop where
 ol:O.length=nP
 al:A.length=nP
 wl:W.length=nW
 pn:nP≤8
 wn:nW≤16384
 fr:((nW / 16:Nat):Int)=fr
 aI:∀ q,q<nP→0≤gd A q∧gd A q<(nW:Int)
 oI:∀ q,q<nP→0≤gd O q∧gd O q≤16
 wI:∀ q,q<nW→0≤gd W q∧gd W q<4294967296
def PW(O A W:List Int)(p:Int):Int×Int×List Int:=if 0≤p∧p<(A.length:Int)then(if gd O p.toNat≤gd W (gd A p.toNat).toNat then(5,0,W)else(0,0,W.set (gd A p.toNat).toNat (gd W (gd A p.toNat).toNat+1)))else(0,1,W)
def XQ(n dp:Nat)(fr:Int)(nP:Nat)(O A:List Int)(aO:Option Addr)(cO:Nat)(aA:Option Addr)(cA:Nat)(ms:Value)(n2 mq:Nat)(aW:Option Addr)(nW cW:Nat)(W:List Int):List Ch:=[.blk dp (.cells #[.int .i64 fr,.slice aO nP cO,.slice aA nP cA,ms] 68 (0,0)) true,Ci n 3 1 (fun x:Int=>[Value.int .i64 x]) (.slice aO nP cO) O,Ci n 3 1 (fun x:Int=>[Value.int .i64 x]) (.slice aA nP cA) A,.blk mq (.cells #[.slice aW nW cW] 81 (0,0)) true,Ci n2 54 1 (fun x:Int=>[Value.int .u32 x]) (.slice aW nW cW) W]
theorem dvS_rw{n dp:Nat}{fr:Int}{nP:Nat}{O A:List Int}{aO:Option Addr}{cO:Nat}{aA:Option Addr}{cA:Nat}{ms:Value}{n2 mq:Nat}{aW:Option Addr}{nW cW:Nat}{W:List Int}:∀ c∈XQ n dp fr nP O A aO cO aA cA ms n2 mq aW nW cW W,c.rw=true:=fun c hc=>by
 simp only[XQ,List.mem_cons,List.not_mem_nil,or_false]at hc
 rcases hc with rfl | rfl | rfl | rfl | rfl <;> rfl
theorem WM{n dp:Nat}{fr:Int}{nP:Nat}{O A:List Int}{aO:Option Addr}{cO:Nat}{aA:Option Addr}{cA:Nat}{ms:Value}{n2 mq:Nat}{aW:Option Addr}{nW cW:Nat}{W W':List Int}{b:Nat}(h:Pq (XQ n dp fr nP O A aO cO aA cA ms n2 mq aW nW cW W') b):Pq (XQ n dp fr nP O A aO cO aA cA ms n2 mq aW nW cW W) b:=by
 simp only[Pq,XQ,List.mem_cons,List.not_mem_nil,or_false,exists_eq_or_imp,exists_eq_left]at h ⊢
 rcases h with h | h | h | h | h
 ·exact .inl h
 ·exact .inr (.inl h)
 ·exact .inr (.inr (.inl h))
 ·exact .inr (.inr (.inr (.inl h)))
 refine .inr (.inr (.inr (.inr ?_)))
 cases aW <;> exact h
def begU(W:List Int)(a:Nat):Nat→List Int
 | 0=>W
 | _+1=>W.set a 0
theorem Jr{W:List Int}{a:Nat}:∀ k,(begU W a k).length=W.length
 | 0=>rfl
 | _+1=>List.length_set
section
variable (dp:Nat)(fr:Int)(aO:Option Addr)(nP cO:Nat)(aA:Option Addr)(cA:Nat)(ms:Value)(mq:Nat)(aW:Option Addr)(nW cW z:Nat)(p:Int)(n2 b24:Nat)(W:List Int)(n b15:Nat)(A:List Int)(b28:Nat)(O:List Int)
abbrev MZ:=bk dp #[i6 fr,.slice aO nP cO,.slice aA nP cA,ms] 68
abbrev L6:=bk mq #[.slice aW nW cW] 81
abbrev L8:=Ci z 3 1 (fun x:Int=>[i6 x]) (.slice (some ⟨z,0,none⟩) 1 1) ([p]:List Int)
abbrev VV:=Ci n2 54 1 (fun x:Int=>[Value.int .u32 x]) (.slice (some ⟨b24,0,none⟩) nW cW) W
abbrev RH:=Ci n 3 1 (fun x:Int=>[i6 x]) (.slice (some ⟨b15,0,none⟩) nP cA) A
abbrev SY:=Ci n 3 1 (fun x:Int=>[i6 x]) (.slice (some ⟨b28,0,none⟩) nP cO) O
abbrev Ll:=Ci n2 54 1 (fun x:Int=>[Value.int .u32 x]) (.slice aW nW cW) W
abbrev Lr:=Ci n 3 1 (fun x:Int=>[i6 x]) (.slice aO nP cO) O
abbrev Na:=Ci n 3 1 (fun x:Int=>[i6 x]) (.slice aA nP cA) A
abbrev O5:Dc:=(15,.slice (some ⟨z,0,none⟩) 1 1)
abbrev J3:=(0,pt dp)
abbrev Jy:=(1,pt mq)
end
theorem Yc(w w0:World)(n dp:Nat)(fr:Int)(nP:Nat)(O A:List Int)(aO:Option Addr)(cO:Nat)(aA:Option Addr)(cA:Nat)(ms:Value)(n2 mq:Nat)(aW:Option Addr)(nW cW:Nat)(W:List Int)(hO:Sat ⟨w0,w.heap.size,XQ n dp fr nP O A aO cO aA cA ms n2 mq aW nW cW W⟩ w)(S0:Nat→Prop)(hS0:S0=Pq (XQ n dp fr nP O A aO cO aA cA ms n2 mq aW nW cW W))(hn0:n≤w.heap.size)(hn2:n2≤w.heap.size)(hD:XI nP nW fr O A W)(p:Int)(hp:HY .i64 p):Calls Tryd.prog 12 #[.pointer (some ⟨dp,0,none⟩),.pointer (some ⟨mq,0,none⟩),.int .i64 p] w fun e w'=>e = .returned (.tuple #[.int .i64 (PW O A W p).1,.int .i64 (PW O A W p).2.1])∧Sat ⟨w,w'.heap.size,XQ n dp fr nP O A aO cO aA cA ms n2 mq aW nW cW (PW O A W p).2.2⟩ w'∧CZ S0 w w':=by
 obtain⟨z,hz⟩:∃ z,z=w.heap.size:=⟨_,rfl⟩
 refine Cb (args:=[pt dp,pt mq,i6 p]) 57 ⟨w,z,[(old S0 w),(MZ dp fr aO nP cO aA cA ms),(Lr aO nP cO n O),(Na nP aA cA n A),(L6 mq aW nW cW),(Ll aW nW cW n2 W)]⟩ Tryd.func12 rfl (by kernel_rfl) (by kernel_rfl) (hS0 ▸ hz ▸ ZaV hO dvS_rw) ?_
 have hdl:=hD.ol;have hdm:=hD.al;have hdw:=hD.wl;have hdp:=hD.pn;have hdn:=hD.wn;have hdf:=hD.fr;have hpI:(-9223372036854775808:Int)≤p∧p≤9223372036854775807:=hp
 refine Ee [0,1,2] [(J3 dp),(Jy mq),(2,i6 p)] ?_
 refine q_c 7 4 [] [[o0,o0],[o0,o0,o0,o0]] [] [(J3 dp),(Jy mq),(2,i6 p),(10,pt dp),(11,pt mq),(13,.slice (some ⟨z,0,none⟩) 1 1)] ⟨w,z+1,[(old S0 w),(MZ dp fr aO nP cO aA cA ms),(Lr aO nP cO n O),(Na nP aA cA n A),(L6 mq aW nW cW),(Ll aW nW cW n2 W),(bk z #[i6 p] 3)]⟩ rfl Af ?_
 refine l_call [] [] 27 #[pt dp,pt mq,.slice (some ⟨z,0,none⟩) 1 1] (some 14) Af ?_
 intro w1 hw1
 refine Cb (args:=[pt dp,pt mq,.slice (some ⟨z,0,none⟩) 1 1]) 40 ⟨w,z+1,[(old S0 w),(MZ dp fr aO nP cO aA cA ms),(Lr aO nP cO n O),(Na nP aA cA n A),(L6 mq aW nW cW),(Ll aW nW cW n2 W),(bk z #[i6 p] 3)]⟩ Tryd.func27 rfl (by kernel_rfl) (by kernel_rfl) hw1 ?_
 refine Az 18 0 [0] [[o0],[o0,o0,o0,o0,o0,o0],[o0,o0,o0]] [] [(J3 dp),(Jy mq),(O5 z),(16,i6 1),(17,i6 0)] rfl Af ?_
 refine YC 6 z z 3 1 (fun x:Int=>[i6 x]) ([p]:List Int) #[i6 p] (by omega) (?_:G _ _ _ _ ⟨w,z+1,[(old S0 w),(MZ dp fr aO nP cO aA cA ms),(Lr aO nP cO n O),(Na nP aA cA n A),(L6 mq aW nW cW),(Ll aW nW cW n2 W),(L8 z p)]⟩ _ _ _)
 refine DY (fun m a w'=>∃ (n3:Nat) (kn:Nat),m=1 - kn∧z+1≤n3∧(kn≤1)∧(kn=0∨(0≤p∧p<(nP:Int)))∧St 40 [(J3 dp),(Jy mq),(O5 z),(16,i6 1),(17,Ac kn)] [] ⟨w,n3,[(old S0 w),(MZ dp fr aO nP cO aA cA ms),(Lr aO nP cO n O),(Na nP aA cA n A),(L6 mq aW nW cW),(Ll aW nW cW n2 W),(L8 z p)]⟩ a w') (1 - 0) ?_ ?_
 ·intro a w' hs;exact⟨(z+1),0,rfl,Nat.le_refl _,Nat.zero_le _,.inl rfl,hs⟩
 rintro m a w' ⟨n3,kn,rfl,hn2,hkkn,hkp,hs⟩
 refine(?_:G Tryd.prog 40 [(J3 dp),(Jy mq),(O5 z),(16,i6 1),(17,Ac kn)] [] ⟨w,n3,[(old S0 w),(MZ dp fr aO nP cO aA cA ms),(Lr aO nP cO n O),(Na nP aA cA n A),(L6 mq aW nW cW),(Ll aW nW cW n2 W),(L8 z p)]⟩ _ _ _) a w' hs
 clear hs a w'
 refine DW ?_
 by_cases h4:(kn:Int)<1
 ·refine Az 14 0 [1] [[oT],[(oi kn),(oa [.via 6 (i6 p)]),o0]] [BT ((kn:Int)<1),DJ kn,kn<1,Di,∀ w',Ch.holds (L8 z p) w'→w'.cell? ⟨z,0+kn,none⟩=some (i6 p)] [(J3 dp),(Jy mq),(O5 z),(16,i6 1),(17,Ac kn),(8,i6 p)] rfl ⟨bt,rfl,(by omega),rfl,FI (sz:=1) (j:=kn) (k:=0) (fun _=>rfl) (by first | omega | (simp only[List.length_cons,List.length_nil];omega) | (rw[Jr];omega) | (rw[List.length_set];omega) | (rw[List.length_set,Jr];omega)) (by rw[show kn=0 by omega];rfl),Af⟩ ?_
  by_cases h5:(p:Int)<0
  ·refine Az 9 0 [1] [[o0,oT,o0,o0],[o0]] [BT ((p:Int)<0)] [(6,i6 1)] rfl ⟨bt,Af⟩ ?_
   refine AO [] [] (i6 1) Af ?_
   intro w6 hw6
   refine⟨_,_,rfl,hw6, ?_⟩
   refine Cc 12 0 [1] [[o0],[o0,o0],[o0,o0,o0]] [] [(6,i6 0),(7,i6 1)] rfl Af ?_
   refine AO [] [] (.tuple #[i6 0,i6 1]) Af ?_
   intro w7 hw7
   have h4:=hw7.pick [1,2,3,4,5] rfl rfl
   (try dsimp only[MZ,L6,L8,Ll,Lr,Na,O5,J3,Jy]at h4)
   (unfold PW;rw[if_neg (show ¬ (0≤p∧p<(A.length:Int))from by omega)];exact⟨rfl,by rw[hw7.size];exact h4,Sat.back hw7 rfl (show w.heap.size≤n3 by omega) (List.mem_cons_self ..)⟩)
  by_cases h8:(p:Int)<(nP:Int)
  ·refine Az 9 0 [0] [[o0,oF,o0,o0,o0,o0,o0,(a1 1),o0,oF,o0],[(ov (i6 ((kn+1:Nat):Int))),o0]] [BF ((p:Int)<0),Qb dp,BF ((p:Int)≥(nP:Int)),Wr ((kn:Int)+1) (((kn+1:Nat):Int))] [(J3 dp),(Jy mq),(O5 z),(16,i6 1),(17,i6 ((kn+1:Nat):Int))] rfl ⟨bf,rfl,bf,CB,Af⟩ ?_
   refine Cf (fun a w' hs=>⟨1 - (kn+1),by omega,n3,(kn+1),rfl,by omega,by omega,.inr ⟨by omega,by omega⟩,hs⟩)
  refine Az 9 0 [1] [[o0,oF,o0,o0,o0,o0,o0,(a1 1),o0,oT,o0],[o0]] [BF ((p:Int)<0),Qb dp,BT ((p:Int)≥(nP:Int))] [(6,i6 1)] rfl ⟨bf,rfl,bt,Af⟩ ?_
  refine AO [] [] (i6 1) Af ?_
  intro w9 hw9
  refine⟨_,_,rfl,hw9, ?_⟩
  refine Cc 12 0 [1] [[o0],[o0,o0],[o0,o0,o0]] [] [(6,i6 0),(7,i6 1)] rfl Af ?_
  refine AO [] [] (.tuple #[i6 0,i6 1]) Af ?_
  intro w10 hw10
  have h4:=hw10.pick [1,2,3,4,5] rfl rfl
  (try dsimp only[MZ,L6,L8,Ll,Lr,Na,O5,J3,Jy]at h4)
  (unfold PW;rw[if_neg (show ¬ (0≤p∧p<(A.length:Int))from by omega)];exact⟨rfl,by rw[hw10.size];exact h4,Sat.back hw10 rfl (show w.heap.size≤n3 by omega) (List.mem_cons_self ..)⟩)
 refine Az 12 0 [0] [[oF]] [BF ((kn:Int)<1)] [(J3 dp),(Jy mq),(O5 z),(16,i6 1),(17,Ac kn),(18,.bool false)] rfl ⟨bf,Af⟩ ?_
 refine Eo 7 [0,1,2,3,4,5,6] [(old S0 w),(MZ dp fr aO nP cO aA cA ms),(Lr aO nP cO n O),(Na nP aA cA n A),(L6 mq aW nW cW),(Ll aW nW cW n2 W),(L8 z p)] rfl rfl ?_
 refine D6 [(0,o0),(2,o0),(3,o0),(4,o0),(5,(a1 1))] [33,38] [Qb dp] [true,false,true,true,true,true,false] [(33,pt mq),(38,i6 fr)] ⟨rfl,Af⟩ ?_
 refine Bv 1 ?_
 refine Ii [] [] 51 #[pt mq] (some 34) (by as_aux_lemma=>kernel_rfl) rfl rfl Af ?_
 intro w11 hw11
 refine Cb (args:=[pt mq]) 11 ⟨w,n3,[(old S0 w),(MZ dp fr aO nP cO aA cA ms),(Lr aO nP cO n O),(Na nP aA cA n A),(L6 mq aW nW cW),(Ll aW nW cW n2 W),(L8 z p)]⟩ Tryd.func51 rfl (by kernel_rfl) (by kernel_rfl) hw11 ?_
 refine Az 17 0 [0] [[o0],[o0,o0],[o0,o0,o0,(a1 4),o0,(ov (i6 ((nW / 16:Nat):Int))),o0]] [Qb mq,Wr (Int.tdiv ((nW:Int)) 16) (((nW / 16:Nat):Int))] [(2,i6 ((nW / 16:Nat):Int))] rfl ⟨rfl,congrArg (Value.int .i64) (Nc (by omega) (by omega) (by omega)),Af⟩ ?_
 refine AO [] [] (i6 ((nW / 16:Nat):Int)) Af ?_
 intro w12 hw12
 have hs13:=hw12
 refine⟨_,_,rfl,hs13,.inr (fun c hc=>hs13.all c (by first | exact hc | exact Ei (is:=[0,1,2,3,4,5,6]) rfl c hc)), ?_⟩
 refine Dt [38,34] [(38,i6 fr),(34,i6 ((nW / 16:Nat):Int))] ?_
 refine D6 [(6,oF)] [39] [NF ((nW / 16:Nat):Int) fr] (DC 7 0) [(39,.bool false)] ⟨nf,Af⟩ ?_
 refine Dl ?_
 refine Oi 9 0 [0] [[o0]] [] [(6,i6 0)] rfl Af ?_
 refine AO [] [] (i6 0) Af ?_
 intro w14 hw14
 refine⟨_,_,rfl,hw14, ?_⟩
 refine Cc 10 0 [0] [[o0],[o0,o0]] [] [(J3 dp),(Jy mq),(2,i6 p),(8,i6 0),(16,.bool false)] rfl Af ?_
 refine JS (base:=n) (e:=3) (sz:=1) (cells:=(fun x:Int=>[i6 x])) (a:=aA) (n:=nP) (cap:=cA) (xs:=A) 3 (by omega) (fun b15 hg16 hb17 => ?_)
 subst hg16
 refine Ze ?_
 have hv18:=hD.aI ((p).toNat) (by omega);have hv19:=hD.oI ((p).toNat) (by omega);have hv20:=hD.wI (gd A ((p).toNat)).toNat (by omega)
 refine Cc 0 8 [] [[o0,o0,o0,o0,(a1 1),o0,(oi ((p).toNat)),(oa [.via 3 (i6 (gd A ((p).toNat)))])]] [Qb dp,(p:Int)=(((p).toNat:Nat):Int),(p).toNat<nP,Di,∀ w',Ch.holds (RH nP cA n b15 A) w'→w'.cell? ⟨b15,0+(p).toNat,none⟩=some (i6 (gd A ((p).toNat)))] [(J3 dp),(Jy mq),(2,i6 p),(19,pt mq),(26,i6 (gd A ((p).toNat)))] rfl ⟨rfl,(by omega),(by omega),rfl,FI (sz:=1) (j:=(p).toNat) (k:=0) (fun _=>rfl) (by first | omega | (simp only[List.length_cons,List.length_nil];omega) | (rw[Jr];omega) | (rw[List.length_set];omega) | (rw[List.length_set,Jr];omega)) rfl,Af⟩ ?_
 refine l_call [] [] 29 #[pt mq,i6 (gd A ((p).toNat))] (some 27) Af ?_
 intro w21 hw21
 refine Cb (args:=[pt mq,i6 (gd A ((p).toNat))]) 20 ⟨w,n3,[(old S0 w),(bk dp #[i6 fr,.slice aO nP cO,.slice (some ⟨b15,0,none⟩) nP cA,ms] 68),(Lr aO nP cO n O),(RH nP cA n b15 A),(L6 mq aW nW cW),(Ll aW nW cW n2 W),(L8 z p)]⟩ Tryd.func29 rfl (by kernel_rfl) (by kernel_rfl) hw21 ?_
 refine Az 7 2 [] [[o0,o0],[o0,o0]] [] [(0,pt mq),(1,i6 (gd A ((p).toNat))),(7,pt mq),(8,i6 (gd A ((p).toNat)))] rfl Af ?_
 refine l_call [] [] 52 #[pt mq,i6 (gd A ((p).toNat)),i6 1] (some 9) Af ?_
 intro w22 hw22
 refine Cb (args:=[pt mq,i6 (gd A ((p).toNat)),i6 1]) 35 ⟨w,n3,[(old S0 w),(bk dp #[i6 fr,.slice aO nP cO,.slice (some ⟨b15,0,none⟩) nP cA,ms] 68),(Lr aO nP cO n O),(RH nP cA n b15 A),(L6 mq aW nW cW),(Ll aW nW cW n2 W),(L8 z p)]⟩ Tryd.func52 rfl (by kernel_rfl) (by kernel_rfl) hw22 ?_
 refine Az 25 0 [0,0] [[o0],[o0,o0],[o0,oF,o0,o0,o0,o0,o0,o0,o0,o0,o0,(a1 4),o0,oF,o0,o0,o0,o0,o0,o0,(a1 4),o0,o0,(ov (i6 ((nW:Int) - (gd A ((p).toNat))))),oF,o0],[o0]] [BF (((gd A ((p).toNat)):Int)<0),Qb mq,BF (((gd A ((p).toNat)):Int) > (nW:Int)),Qb mq,Wr ((nW:Int) - (gd A ((p).toNat))) ((nW:Int) - (gd A ((p).toNat))),BF ((1:Int) > ((nW:Int) - (gd A ((p).toNat))))] [(6,i6 0)] rfl ⟨bf,rfl,bf,rfl,CB,bf,Af⟩ ?_
 refine AO [] [] (i6 0) Af ?_
 intro w23 hw23
 refine⟨_,_,rfl,hw23, ?_⟩
 refine Cc 10 0 [0] [[o0],[o0,o0]] [] [(0,pt mq),(1,i6 (gd A ((p).toNat))),(6,i6 0),(11,.bool false)] rfl Af ?_
 refine JS (base:=n2) (e:=54) (sz:=1) (cells:=(fun x:Int=>[Value.int .u32 x])) (a:=aW) (n:=nW) (cap:=cW) (xs:=W) 5 (by omega) (fun b24 hg25 hb26 => ?_)
 subst hg25
 refine Az 4 0 [] [[o0,o0,o0,(a1 4),o0,(oi (((gd A ((p).toNat))).toNat)),(oa [.via 5 (.int .u32 (gd W (((gd A ((p).toNat))).toNat)))]),o0,o0]] [Qb mq,((gd A ((p).toNat)):Int)=((((gd A ((p).toNat))).toNat:Nat):Int),((gd A ((p).toNat))).toNat<nW,Di,∀ w',Ch.holds (VV nW cW n2 b24 W) w'→w'.cell? ⟨b24,0+((gd A ((p).toNat))).toNat,none⟩=some (.int .u32 (gd W (((gd A ((p).toNat))).toNat)))] [(4,.int .u32 (gd W (((gd A ((p).toNat))).toNat))),(5,i6 0)] rfl ⟨rfl,(by omega),(by omega),rfl,FI (sz:=1) (j:=((gd A ((p).toNat))).toNat) (k:=0) (fun _=>rfl) (by first | omega | (simp only[List.length_cons,List.length_nil];omega) | (rw[Jr];omega) | (rw[List.length_set];omega) | (rw[List.length_set,Jr];omega)) rfl,Af⟩ ?_
 refine AO [] [] (.tuple #[.int .u32 (gd W (((gd A ((p).toNat))).toNat)),i6 0]) Af ?_
 intro w27 hw27
 refine⟨_,_,rfl,hw27, ?_⟩
 refine Cc 10 0 [0] [[o0,o0,o0,o0,o0],[o0,o0,o0]] [] [(J3 dp),(Jy mq),(2,i6 p),(9,.int .u32 (gd W (((gd A ((p).toNat))).toNat))),(7,i6 0),(30,.bool false)] rfl Af ?_
 refine JS (base:=n) (e:=3) (sz:=1) (cells:=(fun x:Int=>[i6 x])) (a:=aO) (n:=nP) (cap:=cO) (xs:=O) 2 (by omega) (fun b28 hg29 hb30 => ?_)
 subst hg29
 by_cases h31:((gd W (((gd A ((p).toNat))).toNat)):Int)<(gd O ((p).toNat))
 ·refine Az 9 0 [0] [[o0,(ov (.int .u64 (gd W (((gd A ((p).toNat))).toNat)))),o0,o0,o0,(a1 1),o0,(oi ((p).toNat)),(oa [.via 2 (i6 (gd O ((p).toNat)))]),(ov (.int .u64 (gd O ((p).toNat)))),oF,o0]] [Value.int .u64 (IntKind.u64.wrap ((gd W (((gd A ((p).toNat))).toNat))))=Value.int .u64 ((gd W (((gd A ((p).toNat))).toNat))),Qb dp,(p:Int)=(((p).toNat:Nat):Int),(p).toNat<nP,Di,∀ w',Ch.holds (SY nP cO n b28 O) w'→w'.cell? ⟨b28,0+(p).toNat,none⟩=some (i6 (gd O ((p).toNat))),Value.int .u64 (IntKind.u64.wrap ((gd O ((p).toNat))))=Value.int .u64 ((gd O ((p).toNat))),BF (((gd W (((gd A ((p).toNat))).toNat)):Int)≥(gd O ((p).toNat)))] [(J3 dp),(Jy mq),(2,i6 p),(9,.int .u32 (gd W (((gd A ((p).toNat))).toNat))),(34,.bool false)] rfl ⟨congrArg (Value.int .u64) (WJ rfl (by omega) (by omega)),rfl,(by omega),(by omega),rfl,FI (sz:=1) (j:=(p).toNat) (k:=0) (fun _=>rfl) (by first | omega | (simp only[List.length_cons,List.length_nil];omega) | (rw[Jr];omega) | (rw[List.length_set];omega) | (rw[List.length_set,Jr];omega)) rfl,congrArg (Value.int .u64) (WJ rfl (by omega) (by omega)),bf,Af⟩ ?_
  have hv32:=hD.aI ((p).toNat) (by omega);have hv33:=hD.oI ((p).toNat) (by omega);have hv34:=hD.wI (gd A ((p).toNat)).toNat (by omega)
  refine Cc 0 10 [] [[o0,o0,o0,o0,(a1 1),o0,(oi ((p).toNat)),(oa [.via 3 (i6 (gd A ((p).toNat)))]),o0,(ov (.int .u32 ((gd W (((gd A ((p).toNat))).toNat))+1)))]] [Qb dp,(p:Int)=(((p).toNat:Nat):Int),(p).toNat<nP,Di,∀ w',Ch.holds (RH nP cA n b15 A) w'→w'.cell? ⟨b15,0+(p).toNat,none⟩=some (i6 (gd A ((p).toNat))),Value.int .u32 (IntKind.u32.wrap (((gd W (((gd A ((p).toNat))).toNat)):Int)+1))=Value.int .u32 ((gd W (((gd A ((p).toNat))).toNat))+1)] [(46,pt mq),(53,i6 (gd A ((p).toNat))),(55,.int .u32 ((gd W (((gd A ((p).toNat))).toNat))+1))] rfl ⟨rfl,(by omega),(by omega),rfl,FI (sz:=1) (j:=(p).toNat) (k:=0) (fun _=>rfl) (by first | omega | (simp only[List.length_cons,List.length_nil];omega) | (rw[Jr];omega) | (rw[List.length_set];omega) | (rw[List.length_set,Jr];omega)) rfl,congrArg (Value.int .u32) (wr_u32 (by omega) (by omega) (by omega)),Af⟩ ?_
  refine l_call [] [] 28 #[pt mq,i6 (gd A ((p).toNat)),.int .u32 ((gd W (((gd A ((p).toNat))).toNat))+1)] (some 56) Af ?_
  intro w35 hw35
  refine Cb (args:=[pt mq,i6 (gd A ((p).toNat)),.int .u32 ((gd W (((gd A ((p).toNat))).toNat))+1)]) 21 ⟨w,n3,[(old S0 w),(bk dp #[i6 fr,.slice (some ⟨b28,0,none⟩) nP cO,.slice (some ⟨b15,0,none⟩) nP cA,ms] 68),(SY nP cO n b28 O),(RH nP cA n b15 A),(bk mq #[.slice (some ⟨b24,0,none⟩) nW cW] 81),(VV nW cW n2 b24 W),(L8 z p)]⟩ Tryd.func28 rfl (by kernel_rfl) (by kernel_rfl) hw35 ?_
  refine Az 6 2 [] [[o0],[o0,o0]] [] [(0,pt mq),(1,i6 (gd A ((p).toNat))),(2,.int .u32 ((gd W (((gd A ((p).toNat))).toNat))+1)),(8,pt mq),(9,i6 (gd A ((p).toNat)))] rfl Af ?_
  refine l_call [] [] 52 #[pt mq,i6 (gd A ((p).toNat)),i6 1] (some 10) Af ?_
  intro w36 hw36
  refine Cb (args:=[pt mq,i6 (gd A ((p).toNat)),i6 1]) 35 ⟨w,n3,[(old S0 w),(bk dp #[i6 fr,.slice (some ⟨b28,0,none⟩) nP cO,.slice (some ⟨b15,0,none⟩) nP cA,ms] 68),(SY nP cO n b28 O),(RH nP cA n b15 A),(bk mq #[.slice (some ⟨b24,0,none⟩) nW cW] 81),(VV nW cW n2 b24 W),(L8 z p)]⟩ Tryd.func52 rfl (by kernel_rfl) (by kernel_rfl) hw36 ?_
  refine Az 25 0 [0,0] [[o0],[o0,o0],[o0,oF,o0,o0,o0,o0,o0,o0,o0,o0,o0,(a1 4),o0,oF,o0,o0,o0,o0,o0,o0,(a1 4),o0,o0,(ov (i6 ((nW:Int) - (gd A ((p).toNat))))),oF,o0],[o0]] [BF (((gd A ((p).toNat)):Int)<0),Qb mq,BF (((gd A ((p).toNat)):Int) > (nW:Int)),Qb mq,Wr ((nW:Int) - (gd A ((p).toNat))) ((nW:Int) - (gd A ((p).toNat))),BF ((1:Int) > ((nW:Int) - (gd A ((p).toNat))))] [(6,i6 0)] rfl ⟨bf,rfl,bf,rfl,CB,bf,Af⟩ ?_
  refine AO [] [] (i6 0) Af ?_
  intro w37 hw37
  refine⟨_,_,rfl,hw37, ?_⟩
  refine Cc 9 7 [1] [[o0],[o0,o0],[o0,o0,o0,(a1 4),o0,o0,(oi (((gd A ((p).toNat))).toNat))]] [Qb mq,((gd A ((p).toNat)):Int)=((((gd A ((p).toNat))).toNat:Nat):Int),((gd A ((p).toNat))).toNat<nW,Di] [(7,i6 0),(18,.int .u32 ((gd W (((gd A ((p).toNat))).toNat))+1)),(19,.pointer (some ⟨b24,0+((gd A ((p).toNat))).toNat,none⟩))] rfl ⟨rfl,(by omega),(by omega),rfl,Af⟩ ?_
  refine MK 5 (((gd A ((p).toNat))).toNat) 0 W ((gd W (((gd A ((p).toNat))).toNat))+1) (fun x:Int=>[Value.int .u32 x]) n2 54 1 b24 nW cW (.int .u32 ((gd W (((gd A ((p).toNat))).toNat))+1)) none (by first | omega | (simp only[List.length_cons,List.length_nil];omega) | (rw[Jr];omega) | (rw[List.length_set];omega) | (rw[List.length_set,Jr];omega)) rfl ?_
  refine Cc 7 0 [] [[],[o0,o0]] [] [(6,i6 0)] rfl Af ?_
  refine AO [] [] (i6 0) Af ?_
  intro w38 hw38
  refine⟨_,_,rfl,hw38, ?_⟩
  refine Cc 3 0 [] [[o0,o0]] [] [(6,i6 0),(7,i6 0)] rfl Af ?_
  refine AO [] [] (.tuple #[i6 0,i6 0]) Af ?_
  intro w39 hw39
  have h4:=hw39.pick [1,2,3,4,5] rfl rfl
  (try dsimp only[MZ,L6,L8,VV,RH,SY,Ll,Lr,Na,O5,J3,Jy]at h4)
  (unfold PW;rw[if_pos (show 0≤p∧p<(A.length:Int)from⟨by omega,by omega⟩),if_neg (show ¬ gd O p.toNat≤gd W (gd A p.toNat).toNat from by omega)];exact⟨rfl,by rw[hw39.size];exact h4,Sat.back hw39 rfl (show w.heap.size≤n3 by omega) (List.mem_cons_self ..)⟩)
 refine Az 9 0 [1] [[o0,(ov (.int .u64 (gd W (((gd A ((p).toNat))).toNat)))),o0,o0,o0,(a1 1),o0,(oi ((p).toNat)),(oa [.via 2 (i6 (gd O ((p).toNat)))]),(ov (.int .u64 (gd O ((p).toNat)))),oT,o0],[o0,o0]] [Value.int .u64 (IntKind.u64.wrap ((gd W (((gd A ((p).toNat))).toNat))))=Value.int .u64 ((gd W (((gd A ((p).toNat))).toNat))),Qb dp,(p:Int)=(((p).toNat:Nat):Int),(p).toNat<nP,Di,∀ w',Ch.holds (SY nP cO n b28 O) w'→w'.cell? ⟨b28,0+(p).toNat,none⟩=some (i6 (gd O ((p).toNat))),Value.int .u64 (IntKind.u64.wrap ((gd O ((p).toNat))))=Value.int .u64 ((gd O ((p).toNat))),BT (((gd W (((gd A ((p).toNat))).toNat)):Int)≥(gd O ((p).toNat)))] [(6,i6 5),(7,i6 0)] rfl ⟨congrArg (Value.int .u64) (WJ rfl (by omega) (by omega)),rfl,(by omega),(by omega),rfl,FI (sz:=1) (j:=(p).toNat) (k:=0) (fun _=>rfl) (by first | omega | (simp only[List.length_cons,List.length_nil];omega) | (rw[Jr];omega) | (rw[List.length_set];omega) | (rw[List.length_set,Jr];omega)) rfl,congrArg (Value.int .u64) (WJ rfl (by omega) (by omega)),bt,Af⟩ ?_
 refine AO [] [] (.tuple #[i6 5,i6 0]) Af ?_
 intro w40 hw40
 have h4:=hw40.pick [1,2,3,4,5] rfl rfl
 (try dsimp only[MZ,L6,L8,SY,Ll,Lr,Na,O5,J3,Jy]at h4)
 (unfold PW;rw[if_pos (show 0≤p∧p<(A.length:Int)from⟨by omega,by omega⟩),if_pos (show gd O p.toNat≤gd W (gd A p.toNat).toNat from by omega)];exact⟨rfl,by rw[hw40.size];exact h4,Sat.back hw40 rfl (show w.heap.size≤n3 by omega) (List.mem_cons_self ..)⟩)
section
variable {nP nW:Nat}{fr:Int}{O A W:List Int}{p:Int}
theorem Zbd(h:XI nP nW fr O A W){a:Nat}{v:Int}(hv:0≤v∧v<4294967296):XI nP nW fr O A (W.set a v) :=
 ⟨h.ol,h.al,by rw[List.length_set];exact h.wl,h.pn,h.wn,h.fr,h.aI,h.oI,fun q hq=>by
  have hl:=h.wl
  by_cases e:q=a
  ·subst e;rw[LU (by omega)];exact hv
  rw[Un (Ne.symm e) (by omega)];exact h.wI q hq⟩
theorem out_ge(h:XI nP nW fr O A W)(h1:0≤p)(h2:p<(nP:Int))(hg:gd O p.toNat≤gd W (gd A p.toNat).toNat):PW O A W p=(5,0,W):=by
 have ha:=h.al
 unfold PW;rw[if_pos (show 0≤p∧p<(A.length:Int)from⟨h1,by omega⟩),if_pos hg]
theorem out_lt(h:XI nP nW fr O A W)(h1:0≤p)(h2:p<(nP:Int))(hg:gd W (gd A p.toNat).toNat<gd O p.toNat):PW O A W p=(0,0,W.set (gd A p.toNat).toNat (gd W (gd A p.toNat).toNat+1)):=by
 have ha:=h.al
 unfold PW;rw[if_pos (show 0≤p∧p<(A.length:Int)from⟨h1,by omega⟩),if_neg (by omega)]
end
theorem gd_rep{n q:Nat}(h:q<n):gd (List.replicate n (0:Int)) q=0:=by rw[F8 (by simpa using h)];simp
theorem Y3{n mq nW cW m:Nat}{aW:Option Addr}{W:List Int}{w0 w:World}(h:Sat ⟨w0,m,Zam n mq aW nW cW W⟩ w)(hq:n≤mq):∀ c∈Zam n mq aW nW cW W,∀ b,c.F b→n≤b:=by
 intro x hx b hb
 have hh:=h.all x hx
 simp only[Zam,List.mem_cons,List.not_mem_nil,or_false]at hx
 rcases hx with rfl | rfl
 ·have hb':b=mq:=hb
  omega
 exact row_new hh b hb
theorem all1{p:Nat→Prop}(h:p 0):∀ q,q<1→p q:=fun q hq=>by rw[show q=0 by omega];exact h
theorem TZ:XI 1 256 16 [1] [153] (List.replicate 256 0):=⟨rfl,rfl,List.length_replicate,by decide,by decide,by decide,all1 (by decide),all1 (by decide),fun q hq=>by rw[gd_rep hq];decide⟩
theorem Zao:PW [1] [153] (List.replicate 256 0) 0=(0,0,(List.replicate 256 0).set 153 1):=by
 rw[out_lt TZ (by decide) (by decide) (of_decide_eq_true (by kernel_rfl))];kernel_rfl
theorem Zaa:PW [1] [153] ((List.replicate 256 0).set 153 1) 0=(5,0,(List.replicate 256 0).set 153 1):=out_ge (Zbd TZ (by decide)) (by decide) (by decide) (of_decide_eq_true (by kernel_rfl))
section
variable (w8:World)(z:Nat)(ax10:Option Addr)(cp11:Nat)(ax22:Option Addr)(y21:Ap)(cp23 n24 n29:Nat)(lay9:FK)(n12:Nat)(w6:World)(W5:Ja)(b41 cp28:Nat)(ax37:Option Addr)(cp38:Nat)(ax27:Option Addr)(w:World)(mq36:Nat)
abbrev KG:=bk (w8.heap.size+3) #[.string (⟨#[97]⟩),i6 0,i6 0,i6 0,i6 1,i6 1,.slice (some ⟨z+5,0,none⟩) 1 1,.slice none 0 0] 52
abbrev Pj:=bk (w8.heap.size+2) #[i6 16,.slice ax10 (([]++[1]).length) cp11,.slice ax22 (([]++[y21.State+4]).length) cp23,.map (some (w8.heap.size+1))] 68
abbrev Jc:=bk (z+1) #[i6 16,i6 400,i6 8,i6 4,.slice (some ⟨z+3,0,none⟩) 1 1,.slice (some ⟨z+6,0,none⟩) 1 1,.slice none 0 0] 26
abbrev JF:=bk (z+9) #[i6 16,i6 400,i6 8,i6 4,.slice (some ⟨z+3,0,none⟩) 1 1,.slice (some ⟨z+6,0,none⟩) 1 1,.slice none 0 0] 26
abbrev IY:=bk z #[i6 16,i6 400,i6 8,i6 4,.slice (some ⟨z+3,0,none⟩) 1 1,.slice (some ⟨z+6,0,none⟩) 1 1,.slice none 0 0] 26
abbrev Je:=bk (z+4) #[.string (⟨#[97]⟩),i6 0,i6 0,i6 0,i6 1,i6 1,.slice (some ⟨z+5,0,none⟩) 1 1,.slice none 0 0] 52
abbrev Ji:=bk (z+6) #[.string (⟨#[97]⟩),i6 0,i6 0,i6 0,i6 1,i6 1,.slice (some ⟨z+5,0,none⟩) 1 1,.slice none 0 0] 52
abbrev YI:=bk (w8.heap.size+2) #[i6 16,.slice ax10 (([]++[1]).length) cp11,.slice none 0 0,.map (some (w8.heap.size+1))] 68
abbrev VU:=bk (w8.heap.size+2) #[i6 16,.slice none 0 0,.slice none 0 0,.map (some (w8.heap.size+1))] 68
abbrev Jp:=bk (z+8) #[i6 0,i6 3,.slice (some ⟨z+7,0,none⟩) 1 1] 32
abbrev OD:=bk n24 #[i6 0,i6 3,.slice (some ⟨z+7,0,none⟩) 1 1] 32
abbrev V9:=bk n29 #[i6 0,i6 3,.slice (some ⟨z+7,0,none⟩) 1 1] 32
abbrev Ic:=bk (z+5) #[i6 0,i6 1,i6 2,i6 7] 103
abbrev Ij:=bk (z+2) #[i6 0,i6 300,i6 100] 101
abbrev H7:=bk (z+3) #[.slice (some ⟨z+2,0,none⟩) 1 1] 65
abbrev OY:=bk (n24+1) #[i6 0,i6 3] 72
abbrev Ky:=bk (w8.heap.size+4) #[i6 1] 3
abbrev J5:Ch:= .blk w8.heap.size (.cells (FK.arr lay9) 60 (0,0)) true
abbrev Nl:=bk n12 #[i6 (y21.State+4)] 3
abbrev IX:Ch:= .blk w6.heap.size (.cells (Ja.arr W5) 38 (0,0)) true
abbrev I7:=bk (z+7) #[.int .u32 77] 54
abbrev NZ:=Ci z 3 1 (fun x:Int=>[i6 x]) (.slice ax22 (([]++[y21.State+4]).length) cp23) ([]++[y21.State+4])
abbrev Xh:=Ci z 54 1 (fun x:Int=>[Value.int .u32 x]) (.slice (some ⟨b41,0,none⟩) 1 cp28) (([]:List Int)++[77])
abbrev Xx:=Ci (n29+1) 54 1 (fun x:Int=>[Value.int .u32 x]) (.slice ax37 256 cp38) (List.replicate 256 0)
abbrev LV:=Ci z 3 1 (fun x:Int=>[i6 x]) (.slice ax10 (([]++[1]).length) cp11) ([]++[1])
abbrev WT:=Ci z 54 1 (fun x:Int=>[Value.int .u32 x]) (.slice ax27 1 cp28) (([]:List Int)++[77])
abbrev QB:=Ci z 3 1 (fun x:Int=>[i6 x]) (.slice none 0 0) ([])
abbrev Gh:=(10,pt (w8.heap.size+2))
abbrev JW:=(8,pt w8.heap.size)
abbrev QV:Dc:=(108,.slice (some ⟨z+6,0,none⟩) 1 1)
abbrev QI:Dc:=(124,.slice (some ⟨z+7,0,none⟩) 1 1)
abbrev QZ:Dc:=(127,.slice (some ⟨z+6,0,none⟩) 1 1)
abbrev JU:Dc:=(43,.slice (some ⟨z+6,0,none⟩) 1 1)
abbrev N9:Dc:=(78,.slice (some ⟨z+8,0,none⟩) 1 1)
abbrev SS:=(15,pt (n24+1))
abbrev FZ:Dc:=(1,.slice (some ⟨z+8,0,none⟩) 1 1)
abbrev Rf:Dc:=(107,.pointer (some ⟨z+9,5,none⟩))
abbrev QH:Dc:=(126,.pointer (some ⟨z+9,5,none⟩))
abbrev QL:=(130,pt (z+6))
abbrev Ro:Dc:=(131,.pointer (some ⟨z+6,4,none⟩))
abbrev Gf:=(2,pt (z+9))
abbrev QG:=(100,pt n24)
abbrev Rn:=(105,pt n24)
abbrev QR:Dc:=(113,.pointer (some ⟨n24,1,none⟩))
abbrev QE:Dc:=(118,.pointer (some ⟨n24,1,none⟩))
abbrev QU:Dc:=(123,.pointer (some ⟨n24,2,none⟩))
abbrev QF:=(128,pt n24)
abbrev X5:=[(Ak w),(IY z),(Jc z),(Ij z),(H7 z),(Je z),(Ic z),(Ji z),(I7 z),(Jp z),(JF z),(IX w6 W5),(mid (w6.heap.size+1) w8),(J5 w8 lay9),(Ch.blk (w8.heap.size+1) (.map #[{ key:= .agg #[i6 0,i6 3],val:= .slice (some ⟨b41,0,none⟩) 1 cp28,born:=0 }] 1) true),(Pj w8 ax10 cp11 ax22 y21 cp23),(LV z ax10 cp11),(NZ z ax22 y21 cp23),(KG w8 z),(Ky w8),(Nl y21 n12),(OD z n24),(OY n24),(Xh z b41 cp28),(V9 z n29),(bk mq36 #[.slice ax37 256 cp38] 81),(Xx n29 ax37 cp38)]
abbrev ZJ:=[(Ak w),(IY z),(Jc z),(Ij z),(H7 z),(Je z),(Ic z),(Ji z),(I7 z),(Jp z),(JF z),(IX w6 W5),(mid (w6.heap.size+1) w8),(J5 w8 lay9),(Ch.blk (w8.heap.size+1) (.map #[{ key:= .agg #[i6 0,i6 3],val:= .slice ax27 1 cp28,born:=0 }] 1) true),(Pj w8 ax10 cp11 ax22 y21 cp23),(LV z ax10 cp11),(NZ z ax22 y21 cp23),(KG w8 z),(Ky w8),(Nl y21 n12),(OD z n24),(OY n24),(WT z cp28 ax27)]
abbrev TK:=[(Ak w),(IY z),(Jc z),(Ij z),(H7 z),(Je z),(Ic z),(Ji z),(I7 z),(Jp z),(JF z),(IX w6 W5),(mid (w6.heap.size+1) w8),(J5 w8 lay9),(Ch.blk (w8.heap.size+1) (.map #[] 0) true),(Pj w8 ax10 cp11 ax22 y21 cp23),(LV z ax10 cp11),(NZ z ax22 y21 cp23),(KG w8 z),(Ky w8),(Nl y21 n12),(OD z n24),(OY n24)]
abbrev ZE:=[(Ak w),(IY z),(Jc z),(Ij z),(H7 z),(Je z),(Ic z),(Ji z),(I7 z),(Jp z),(JF z),(IX w6 W5),(mid (w6.heap.size+1) w8),(J5 w8 lay9),(Ch.blk (w8.heap.size+1) (.map #[] 0) true),(Pj w8 ax10 cp11 ax22 y21 cp23),(LV z ax10 cp11),(NZ z ax22 y21 cp23),(KG w8 z),(Ky w8),(Nl y21 n12)]
abbrev Zq:=[(Ak w),(IY z),(Jc z),(Ij z),(H7 z),(Je z),(Ic z),(Ji z),(I7 z),(Jp z),(JF z),(IX w6 W5),(mid (w6.heap.size+1) w8),(J5 w8 lay9),(Ch.blk (w8.heap.size+1) (.map #[] 0) true),(YI w8 ax10 cp11),(LV z ax10 cp11),(QB z),(KG w8 z),(Ky w8)]
abbrev Zv:=[(Ak w),(IY z),(Jc z),(Ij z),(H7 z),(Je z),(Ic z),(Ji z),(I7 z),(Jp z)]
end
theorem Zp(w:World)(hL:Iq w):Calls Tryd.prog 7 #[] w fun e w'=>e = .returned (.bool true)∧CZ (fun _=>False) w w':=by
 obtain⟨z,hz⟩:∃ z,z=w.heap.size:=⟨_,rfl⟩
 refine Cb (args:=[]) 91 ⟨w,z,[(Ak w)]⟩ Tryd.func7 rfl (by kernel_rfl) (by kernel_rfl) (ES hz) ?_
 refine Ee [] [] ?_
 refine Az 6 0 [] [[o0]] [] [] rfl Af ?_
 refine l_call [] [] 15 #[] (some 14) Af ?_
 intro w1 hw1
 refine Cb (args:=[]) 16 ⟨w,z,[(Ak w)]⟩ Tryd.func15 rfl (by kernel_rfl) (by kernel_rfl) hw1 ?_
 refine q_c 29 0 [] [[o0],[o0,o0,(an 7 2)],[o0,o0,o0,o0,(a1 2)],[o0,o0,(an 8 5)],[o0,o0,o0,(a1 5)],[(an 8 5),o0,o0,(a1 2)],[(an 7 2),(an 7 1)]] [Qb (z+1),Qb (z+1),Qb (z+1),Qb (z+1),Qb (z+1),Qb (z+1),Qb (z+1),Qb (z+1),Qb (z+4),Qb (z+4),Qb (z+4),Qb (z+4),Qb (z+4),Qb (z+4),Qb (z+4),Qb (z+4),Qb (z+4),Qb (z+4),Qb (z+4),Qb (z+4),Qb (z+4),Qb (z+4),Qb (z+4),Qb (z+4),Qb (z+4),Qb (z+1),Qb (z+1),Qb (z+1),Qb (z+1),Qb (z+1),Qb (z+1),Qb (z+1),Qb (z+1),Qb z,Qb z,Qb z,Qb z,Qb z,Qb z,Qb z] [(0,pt z)] ⟨w,z+7,[(Ak w),(IY z),(Jc z),(Ij z),(H7 z),(Je z),(Ic z),(Ji z)]⟩ rfl ⟨rfl,rfl,rfl,rfl,rfl,rfl,rfl,rfl,rfl,rfl,rfl,rfl,rfl,rfl,rfl,rfl,rfl,rfl,rfl,rfl,rfl,rfl,rfl,rfl,rfl,rfl,rfl,rfl,rfl,rfl,rfl,rfl,rfl,rfl,rfl,rfl,rfl,rfl,rfl,rfl,Af⟩ ?_
 refine AO [.at 1,.at 1,.at 1,.at 1,.at 1,.at 1,.at 1] [Qb z,Qb z,Qb z,Qb z,Qb z,Qb z,Qb z] (.agg #[i6 16,i6 400,i6 8,i6 4,.slice (some ⟨z+3,0,none⟩) 1 1,.slice (some ⟨z+6,0,none⟩) 1 1,.slice none 0 0]) ⟨rfl,rfl,rfl,rfl,rfl,rfl,rfl,Af⟩ ?_
 intro w2 hw2
 refine⟨_,_,rfl,hw2, ?_⟩
 refine Gi 0 3 [] [[o0,o0,o0]] [] [(14,.agg #[i6 16,i6 400,i6 8,i6 4,.slice (some ⟨z+3,0,none⟩) 1 1,.slice (some ⟨z+6,0,none⟩) 1 1,.slice none 0 0]),(17,.slice (some ⟨z+8,0,none⟩) 1 1)] ⟨w,z+9,(Zv z w)⟩ rfl Af ?_
 refine l_call [] [] 8 #[.agg #[i6 16,i6 400,i6 8,i6 4,.slice (some ⟨z+3,0,none⟩) 1 1,.slice (some ⟨z+6,0,none⟩) 1 1,.slice none 0 0],.slice (some ⟨z+8,0,none⟩) 1 1] (some 18) Af ?_
 intro w3 hw3
 refine Cb (args:=[.agg #[i6 16,i6 400,i6 8,i6 4,.slice (some ⟨z+3,0,none⟩) 1 1,.slice (some ⟨z+6,0,none⟩) 1 1,.slice none 0 0],.slice (some ⟨z+8,0,none⟩) 1 1]) 165 ⟨w,z+9,(Zv z w)⟩ Tryd.func8 rfl (by kernel_rfl) (by kernel_rfl) hw3 ?_
 refine q_c 15 1 [0] [[o0,o0,o0],[o0,o0,o0],[(an 7 10)]] [Qb (z+9),Qb (z+9),Qb (z+9),Qb (z+9),Qb (z+9),Qb (z+9),Qb (z+9)] [(FZ z),(Gf z),(24,.agg #[i6 16,i6 400,i6 8,i6 4,.slice (some ⟨z+3,0,none⟩) 1 1,.slice (some ⟨z+6,0,none⟩) 1 1,.slice none 0 0])] ⟨w,z+10,[(Ak w),(IY z),(Jc z),(Ij z),(H7 z),(Je z),(Ic z),(Ji z),(I7 z),(Jp z),(JF z)]⟩ rfl ⟨rfl,rfl,rfl,rfl,rfl,rfl,rfl,Af⟩ ?_
 refine l_call [] [] 17 #[.agg #[i6 16,i6 400,i6 8,i6 4,.slice (some ⟨z+3,0,none⟩) 1 1,.slice (some ⟨z+6,0,none⟩) 1 1,.slice none 0 0]] (some 25) Af ?_
 intro w4 hw4
 refine(check_at w4 (hL.ext (hw4.ext rfl)) (⟨16,400,8,4,(⟨some ⟨z+3,0,none⟩,1,([(⟨some ⟨z+2,0,none⟩,1,([(⟨0,300,100⟩:BA)]:List BA)⟩:Sl BA)]:List (Sl BA))⟩:Sl (Sl BA)),(⟨some ⟨z+6,0,none⟩,1,([(⟨⟨#[97]⟩,0,0,0,1,1,(⟨some ⟨z+5,0,none⟩,1,([(⟨0,1,2,7⟩:BD)]:List BD)⟩:Sl BD),(⟨none,0,[]⟩:Sl DK)⟩:Aq)]:List Aq)⟩:Sl Aq),(⟨none,0,[]⟩:Sl AP)⟩:Aj) (⟨(Ej (n:=16)),(Ej (n:=400)),(Ej (n:=8)),(Ej (n:=4)),(Ld hw4 (cells:=(fun x:Sl BA=>[Sl.val x])) (sz:=1) (ok:=(fun F W x=>J7 BA.cells 3 BA.ok F W x)) (i:=4) (fun _=>rfl) ([(⟨some ⟨z+2,0,none⟩,1,([(⟨0,300,100⟩:BA)]:List BA)⟩:Sl BA)]:List (Sl BA)) (KZ (p:=(fun F W x=>J7 BA.cells 3 BA.ok F W x) Any w4) (Ld hw4 (cells:=BA.cells) (sz:=3) (ok:=BA.ok) (i:=3) (fun _=>rfl) ([(⟨0,300,100⟩:BA)]:List BA) (KZ (p:=BA.ok Any w4) (⟨(Ej (n:=0)),(Ej (n:=300)),(Ej (n:=100))⟩:BA.ok Any w4 ⟨0,300,100⟩) Nb)) Nb)),(Ld hw4 (cells:=Aq.cells) (sz:=8) (ok:=Aq.ok) (i:=7) (fun _=>rfl) ([(⟨⟨#[97]⟩,0,0,0,1,1,(⟨some ⟨z+5,0,none⟩,1,([(⟨0,1,2,7⟩:BD)]:List BD)⟩:Sl BD),(⟨none,0,[]⟩:Sl DK)⟩:Aq)]:List Aq) (KZ (p:=Aq.ok Any w4) (⟨(show(⟨#[97]⟩:ByteArray).size≤140737488351232 by decide),(Ej (n:=0)),(Ej (n:=0)),(Ej (n:=0)),(Ej (n:=1)),(Ej (n:=1)),(Ld hw4 (cells:=BD.cells) (sz:=4) (ok:=BD.ok) (i:=6) (fun _=>rfl) ([(⟨0,1,2,7⟩:BD)]:List BD) (KZ (p:=BD.ok Any w4) (⟨(Ej (n:=0)),(Ej (n:=1)),(Ej (n:=2)),(Ej (n:=7))⟩:BD.ok Any w4 ⟨0,1,2,7⟩) Nb)),PZ⟩:Aq.ok Any w4 ⟨⟨#[97]⟩,0,0,0,1,1,(⟨some ⟨z+5,0,none⟩,1,([(⟨0,1,2,7⟩:BD)]:List BD)⟩:Sl BD),(⟨none,0,[]⟩:Sl DK)⟩) Nb)),PZ⟩:Aj.ok Any w4 ⟨16,400,8,4,(⟨some ⟨z+3,0,none⟩,1,([(⟨some ⟨z+2,0,none⟩,1,([(⟨0,300,100⟩:BA)]:List BA)⟩:Sl BA)]:List (Sl BA))⟩:Sl (Sl BA)),(⟨some ⟨z+6,0,none⟩,1,([(⟨⟨#[97]⟩,0,0,0,1,1,(⟨some ⟨z+5,0,none⟩,1,([(⟨0,1,2,7⟩:BD)]:List BD)⟩:Sl BD),(⟨none,0,[]⟩:Sl DK)⟩:Aq)]:List Aq)⟩:Sl Aq),(⟨none,0,[]⟩:Sl AP)⟩) (Nat.le_of_ble_eq_true (by kernel_rfl)) 0 (by kernel_rfl)).mono ?_
 rintro e w6 ⟨W5,rfl,hkw6⟩
 have hnw6:z+10≤w6.heap.size:=Ik hw4 hkw6
 refine⟨_,_,rfl,hw4.keeps hkw6, ?_⟩
 refine Gi 11 1 [0] [[o0,o0,o0,o0,o0,(an 2 11)],[o0,o0],[(an 7 10)]] [Qb w6.heap.size,Qb w6.heap.size,Qb (z+9),Qb (z+9),Qb (z+9),Qb (z+9),Qb (z+9),Qb (z+9),Qb (z+9)] [(FZ z),(Gf z),(31,.agg #[i6 16,i6 400,i6 8,i6 4,.slice (some ⟨z+3,0,none⟩) 1 1,.slice (some ⟨z+6,0,none⟩) 1 1,.slice none 0 0])] ⟨w,w6.heap.size+1,[(Ak w),(IY z),(Jc z),(Ij z),(H7 z),(Je z),(Ic z),(Ji z),(I7 z),(Jp z),(JF z),(IX w6 W5)]⟩ rfl ⟨rfl,rfl,rfl,rfl,rfl,rfl,rfl,rfl,rfl,Af⟩ ?_
 refine l_call [] [] 18 #[.agg #[i6 16,i6 400,i6 8,i6 4,.slice (some ⟨z+3,0,none⟩) 1 1,.slice (some ⟨z+6,0,none⟩) 1 1,.slice none 0 0]] (some 32) Af ?_
 intro w7 hw7
 refine(ZaA w7 (⟨16,400,8,4,(⟨some ⟨z+3,0,none⟩,1,([(⟨some ⟨z+2,0,none⟩,1,([(⟨0,300,100⟩:BA)]:List BA)⟩:Sl BA)]:List (Sl BA))⟩:Sl (Sl BA)),(⟨some ⟨z+6,0,none⟩,1,([(⟨⟨#[97]⟩,0,0,0,1,1,(⟨some ⟨z+5,0,none⟩,1,([(⟨0,1,2,7⟩:BD)]:List BD)⟩:Sl BD),(⟨none,0,[]⟩:Sl DK)⟩:Aq)]:List Aq)⟩:Sl Aq),(⟨none,0,[]⟩:Sl AP)⟩:Aj) (⟨(Ej (n:=16)),(Ej (n:=400)),(Ej (n:=8)),(Ej (n:=4)),(Ld hw7 (cells:=(fun x:Sl BA=>[Sl.val x])) (sz:=1) (ok:=(fun F W x=>J7 BA.cells 3 BA.ok F W x)) (i:=4) (fun _=>rfl) ([(⟨some ⟨z+2,0,none⟩,1,([(⟨0,300,100⟩:BA)]:List BA)⟩:Sl BA)]:List (Sl BA)) (KZ (p:=(fun F W x=>J7 BA.cells 3 BA.ok F W x) Any w7) (Ld hw7 (cells:=BA.cells) (sz:=3) (ok:=BA.ok) (i:=3) (fun _=>rfl) ([(⟨0,300,100⟩:BA)]:List BA) (KZ (p:=BA.ok Any w7) (⟨(Ej (n:=0)),(Ej (n:=300)),(Ej (n:=100))⟩:BA.ok Any w7 ⟨0,300,100⟩) Nb)) Nb)),(Ld hw7 (cells:=Aq.cells) (sz:=8) (ok:=Aq.ok) (i:=7) (fun _=>rfl) ([(⟨⟨#[97]⟩,0,0,0,1,1,(⟨some ⟨z+5,0,none⟩,1,([(⟨0,1,2,7⟩:BD)]:List BD)⟩:Sl BD),(⟨none,0,[]⟩:Sl DK)⟩:Aq)]:List Aq) (KZ (p:=Aq.ok Any w7) (⟨(show(⟨#[97]⟩:ByteArray).size≤140737488351232 by decide),(Ej (n:=0)),(Ej (n:=0)),(Ej (n:=0)),(Ej (n:=1)),(Ej (n:=1)),(Ld hw7 (cells:=BD.cells) (sz:=4) (ok:=BD.ok) (i:=6) (fun _=>rfl) ([(⟨0,1,2,7⟩:BD)]:List BD) (KZ (p:=BD.ok Any w7) (⟨(Ej (n:=0)),(Ej (n:=1)),(Ej (n:=2)),(Ej (n:=7))⟩:BD.ok Any w7 ⟨0,1,2,7⟩) Nb)),PZ⟩:Aq.ok Any w7 ⟨⟨#[97]⟩,0,0,0,1,1,(⟨some ⟨z+5,0,none⟩,1,([(⟨0,1,2,7⟩:BD)]:List BD)⟩:Sl BD),(⟨none,0,[]⟩:Sl DK)⟩) Nb)),PZ⟩:Aj.ok Any w7 ⟨16,400,8,4,(⟨some ⟨z+3,0,none⟩,1,([(⟨some ⟨z+2,0,none⟩,1,([(⟨0,300,100⟩:BA)]:List BA)⟩:Sl BA)]:List (Sl BA))⟩:Sl (Sl BA)),(⟨some ⟨z+6,0,none⟩,1,([(⟨⟨#[97]⟩,0,0,0,1,1,(⟨some ⟨z+5,0,none⟩,1,([(⟨0,1,2,7⟩:BD)]:List BD)⟩:Sl BD),(⟨none,0,[]⟩:Sl DK)⟩:Aq)]:List Aq)⟩:Sl Aq),(⟨none,0,[]⟩:Sl AP)⟩) (by kernel_rfl)).mono ?_
 rintro e w8 ⟨lay9,rfl,hIlay9,hOlay9, -,hkw8⟩
 have hnw8:w6.heap.size+1≤w8.heap.size:=Ik hw7 hkw8
 rw[hw7.size]at hOlay9;have hpllay9:lay9.Aa.xs.length=(⟨16,400,8,4,(⟨some ⟨z+3,0,none⟩,1,([(⟨some ⟨z+2,0,none⟩,1,([(⟨0,300,100⟩:BA)]:List BA)⟩:Sl BA)]:List (Sl BA))⟩:Sl (Sl BA)),(⟨some ⟨z+6,0,none⟩,1,([(⟨⟨#[97]⟩,0,0,0,1,1,(⟨some ⟨z+5,0,none⟩,1,([(⟨0,1,2,7⟩:BD)]:List BD)⟩:Sl BD),(⟨none,0,[]⟩:Sl DK)⟩:Aq)]:List Aq)⟩:Sl Aq),(⟨none,0,[]⟩:Sl AP)⟩:Aj).Aa.xs.length:=hIlay9.pl
 refine⟨_,_,rfl,hw7.SC hkw8, ?_⟩
 replace hpllay9:lay9.Aa.xs.length=1:=hpllay9
 refine Gi 20 0 [0] [[o0,o0,o0,o0,(an 4 13),o0],[o0,o0],[o0,(a1 10),o0,o0,o0,o0],[o0,(a1 10),o0,o0]] [Qb w8.heap.size,Qb w8.heap.size,Qb w8.heap.size,Qb w8.heap.size,Qb (z+9),Qb (z+9)] [(FZ z),(Gf z),(JW w8),(Gh w8),(JU z),(44,i6 1),(45,i6 0)] ⟨w,w8.heap.size+3,[(Ak w),(IY z),(Jc z),(Ij z),(H7 z),(Je z),(Ic z),(Ji z),(I7 z),(Jp z),(JF z),(IX w6 W5),(mid (w6.heap.size+1) w8),(J5 w8 lay9),(Ch.blk (w8.heap.size+1) (.map #[] 0) true),(VU w8)]⟩ rfl ⟨rfl,rfl,rfl,rfl,rfl,rfl,Af⟩ ?_
 refine Qr z 3 1 (fun x:Int=>[i6 x]) ?_
 refine Qr z 3 1 (fun x:Int=>[i6 x]) ?_
 refine VP 40 ?_
 refine q_c 15 0 [1] [[o0],[o0,(oi 0),(an 8 7),o0,o0,(an 8 18)]] [(0:Int)=((0:Nat):Int),0<1,Di,Qb (z+6),Qb (z+6),Qb (z+6),Qb (z+6),Qb (z+6),Qb (z+6),Qb (z+6),Qb (z+6),Qb (w8.heap.size+3),Qb (w8.heap.size+3),Qb (w8.heap.size+3),Qb (w8.heap.size+3),Qb (w8.heap.size+3),Qb (w8.heap.size+3),Qb (w8.heap.size+3),Qb (w8.heap.size+3)] [(FZ z),(Gf z),(JW w8),(Gh w8),(JU z),(44,i6 1),(45,i6 0),(12,pt (w8.heap.size+3)),(11,i6 0)] ⟨w,w8.heap.size+4,[(Ak w),(IY z),(Jc z),(Ij z),(H7 z),(Je z),(Ic z),(Ji z),(I7 z),(Jp z),(JF z),(IX w6 W5),(mid (w6.heap.size+1) w8),(J5 w8 lay9),(Ch.blk (w8.heap.size+1) (.map #[] 0) true),(VU w8),(QB z),(QB z),(KG w8 z)]⟩ rfl ⟨rfl,(by omega),rfl,rfl,rfl,rfl,rfl,rfl,rfl,rfl,rfl,rfl,rfl,rfl,rfl,rfl,rfl,rfl,rfl,Af⟩ ?_
 refine Eo 11 [0,1,2,3,4,5,6,7,8,9,10,11,12,13,14,15,18] [(Ak w),(IY z),(Jc z),(Ij z),(H7 z),(Je z),(Ic z),(Ji z),(I7 z),(Jp z),(JF z),(IX w6 W5),(mid (w6.heap.size+1) w8),(J5 w8 lay9),(Ch.blk (w8.heap.size+1) (.map #[] 0) true),(VU w8),(KG w8 z)] rfl rfl ?_
 refine D6 [(0,o0),(1,o0),(2,o0),(3,o0),(4,(a1 15)),(5,o0),(6,(a1 16))] [1,2,8,10,43,44,45,11,50,54,56] [Qb (w8.heap.size+2),Qb (w8.heap.size+3)] (DC 7 5) [(FZ z),(Gf z),(JW w8),(Gh w8),(JU z),(44,i6 1),(45,i6 0),(11,i6 0),(50,pt (w8.heap.size+2)),(54,.slice none 0 0),(56,i6 1)] ⟨rfl,rfl,Af⟩ ?_
 refine Bv 7 ?_
 refine BC o0 [1,2,8,10,43,44,45,11,50,54,57] [] [(FZ z),(Gf z),(JW w8),(Gh w8),(JU z),(44,i6 1),(45,i6 0),(11,i6 0),(50,pt (w8.heap.size+2)),(54,.slice none 0 0),(57,.slice (some ⟨w8.heap.size+4,0,none⟩) 1 1)] ⟨w,w8.heap.size+5,[(Ak w),(IY z),(Jc z),(Ij z),(H7 z),(Je z),(Ic z),(Ji z),(I7 z),(Jp z),(JF z),(IX w6 W5),(mid (w6.heap.size+1) w8),(J5 w8 lay9),(Ch.blk (w8.heap.size+1) (.map #[] 0) true),(VU w8),(QB z),(QB z),(KG w8 z),(Ky w8)]⟩ [0,1,2,3,4,5,6,7,8,9,10,11,12,13,14,15,18] Af (.inr rfl) ?_
 refine Bv 8 ?_
 refine PS z 16 19 ([]) [1] (fun x:Int=>[i6 x]) 3 1 8 (.slice none 0 0) (w8.heap.size+4) 1 1 #[i6 1] 3 (0,0) true (some 58) [0,1,2,3,4,5,6,7,8,9,10,11,12,13,14,15,18] (by simp only[List.length_cons,List.length_nil];omega) (show z≤w8.heap.size+5 by omega) (.inr ⟨rfl,rfl⟩) (fun ax10 cp11 n12 (hn13:w8.heap.size+5≤n12) => ?_)
 refine Dt [1,2,8,10,43,44,45,11,50,58] [(FZ z),(Gf z),(JW w8),(Gh w8),(JU z),(44,i6 1),(45,i6 0),(11,i6 0),(50,pt (w8.heap.size+2)),(58,.slice ax10 (([]++[1]).length) cp11)] ?_
 refine D6 [(9,o0),(10,o0)] [1,2,8,10,43,44,45,11,58,60] [] (DC 11 1) [(FZ z),(Gf z),(JW w8),(Gh w8),(JU z),(44,i6 1),(45,i6 0),(11,i6 0),(58,.slice ax10 (([]++[1]).length) cp11),(60,.pointer (some ⟨w8.heap.size+2,1,none⟩))] Af ?_
 refine Bv 11 ?_
 refine BC (a1 15) [1,2,8,10,43,44,45,11] [Qb (w8.heap.size+2)] [(FZ z),(Gf z),(JW w8),(Gh w8),(JU z),(44,i6 1),(45,i6 0),(11,i6 0)] ⟨w,n12,(Zq w8 z ax10 cp11 lay9 w6 W5 w)⟩ [] ⟨rfl,Af⟩ (.inl rfl) ?_
 refine DV 12 [0,1,2,3,4,5,6,7,8,9,10,11,12,13,14,15,16,17,18,19] (Zq w8 z ax10 cp11 lay9 w6 W5 w) rfl rfl ?_
 refine Dl ?_
 refine BR [1,2,8,10,43,44,45,11] [(FZ z),(Gf z),(JW w8),(Gh w8),(JU z),(44,i6 1),(45,i6 0),(11,i6 0)] ?_
 refine IV ?_
 obtain⟨b14,o15,ha16,hF18,hc17⟩:=(hOlay9.Aa).1.all (show 0<lay9.Aa.xs.length by omega)
 replace ha16:lay9.Aa.a=some ⟨b14,o15,none⟩:=ha16
 have hc19:=hc17 0 (show 0<lay9.Aa.xs.length by omega)
 have he20:=(hOlay9.Aa).2 0 (show 0<lay9.Aa.xs.length by omega)
 obtain⟨y21,hy21⟩:∃ y_,y_=gd lay9.Aa.xs 0:=⟨_,rfl⟩
 rw[←hy21]at he20 hc19
 have hst:y21.State=149:=by rw[hy21];exact state_is hIlay9 (show 0<1 by decide)
 refine Eo 16 [0,1,2,3,4,5,6,7,8,9,10,11,12,13,14,15,18,19] [(Ak w),(IY z),(Jc z),(Ij z),(H7 z),(Je z),(Ic z),(Ji z),(I7 z),(Jp z),(JF z),(IX w6 W5),(mid (w6.heap.size+1) w8),(J5 w8 lay9),(Ch.blk (w8.heap.size+1) (.map #[] 0) true),(YI w8 ax10 cp11),(KG w8 z),(Ky w8)] rfl rfl ?_
 refine D6 [(0,o0),(1,o0),(2,o0),(3,o0),(4,(a1 15)),(5,o0),(6,(Gy 13 b14 o15 lay9.Aa)),(7,o0),(8,(oi 0)),(9,o0),(10,(oa [.via 12 (i6 y21.State)])),(11,(ov (i6 (y21.State+4))))] [1,2,8,10,43,44,45,61,65,72] [Qb (w8.heap.size+2),Qb w8.heap.size,FO b14 o15 lay9.Aa,(0:Int)=((0:Nat):Int),0<lay9.Aa.xs.length,Di,∀ w',Ch.holds (mid (w6.heap.size+1) w8) w'→w'.cell? ⟨b14,o15+2,none⟩=some (i6 y21.State),Wr ((y21.State:Int)+4) (y21.State+4)] (DC 12 5) [(FZ z),(Gf z),(JW w8),(Gh w8),(JU z),(44,i6 1),(45,i6 0),(61,pt (w8.heap.size+2)),(65,.slice none 0 0),(72,i6 (y21.State+4))] ⟨rfl,rfl,FP ha16,rfl,(by omega),rfl,LJ hF18 (hc19 2 _ rfl),CB,Af⟩ ?_
 refine Bv 12 ?_
 refine BC o0 [1,2,8,10,43,44,45,61,65,73] [] [(FZ z),(Gf z),(JW w8),(Gh w8),(JU z),(44,i6 1),(45,i6 0),(61,pt (w8.heap.size+2)),(65,.slice none 0 0),(73,.slice (some ⟨n12,0,none⟩) 1 1)] ⟨w,n12+1,[(Ak w),(IY z),(Jc z),(Ij z),(H7 z),(Je z),(Ic z),(Ji z),(I7 z),(Jp z),(JF z),(IX w6 W5),(mid (w6.heap.size+1) w8),(J5 w8 lay9),(Ch.blk (w8.heap.size+1) (.map #[] 0) true),(YI w8 ax10 cp11),(LV z ax10 cp11),(QB z),(KG w8 z),(Ky w8),(Nl y21 n12)]⟩ [0,1,2,3,4,5,6,7,8,9,10,11,12,13,14,15,18,19] Af (.inr rfl) ?_
 refine Bv 13 ?_
 refine PS z 17 20 ([]) [y21.State+4] (fun x:Int=>[i6 x]) 3 1 8 (.slice none 0 0) n12 1 1 #[i6 (y21.State+4)] 3 (0,0) true (some 74) [0,1,2,3,4,5,6,7,8,9,10,11,12,13,14,15,18,19] (by simp only[List.length_cons,List.length_nil];omega) (show z≤n12+1 by omega) (.inr ⟨rfl,rfl⟩) (fun ax22 cp23 n24 (hn25:n12+1≤n24) => ?_)
 refine Dt [1,2,8,10,43,44,45,61,74] [(FZ z),(Gf z),(JW w8),(Gh w8),(JU z),(44,i6 1),(45,i6 0),(61,pt (w8.heap.size+2)),(74,.slice ax22 (([]++[y21.State+4]).length) cp23)] ?_
 refine D6 [(14,o0),(15,o0)] [1,2,8,10,43,44,45,74,76] [] (DC 16 1) [(FZ z),(Gf z),(JW w8),(Gh w8),(JU z),(44,i6 1),(45,i6 0),(74,.slice ax22 (([]++[y21.State+4]).length) cp23),(76,.pointer (some ⟨w8.heap.size+2,2,none⟩))] Af ?_
 refine Bv 16 ?_
 refine BC (a1 15) [1,2,8,10,43,44,45] [Qb (w8.heap.size+2)] [(FZ z),(Gf z),(JW w8),(Gh w8),(JU z),(44,i6 1),(45,i6 0)] ⟨w,n24,(ZE w8 z ax10 cp11 ax22 y21 cp23 lay9 n12 w6 W5 w)⟩ [] ⟨rfl,Af⟩ (.inl rfl) ?_
 refine DV 17 [0,1,2,3,4,5,6,7,8,9,10,11,12,13,14,15,16,17,18,19,20] (ZE w8 z ax10 cp11 ax22 y21 cp23 lay9 n12 w6 W5 w) rfl rfl ?_
 refine Dl ?_
 refine Oi 4 0 [] [[o0,o0]] [] [(FZ z),(Gf z),(JW w8),(Gh w8),(JU z),(44,i6 1),(45,i6 1)] rfl Af ?_
 refine VS ?_
 refine Az 17 0 [0] [[o0],[o0,o0,o0]] [] [(FZ z),(Gf z),(Gh w8),(N9 z),(79,i6 1),(80,i6 0)] rfl Af ?_
 refine VP 40 ?_
 refine q_c 19 0 [1] [[o0],[(oi 0),(an 3 9),o0,(an 3 21)],[o0,(a1 21),o0,(a1 21),o0,o0,(an 2 22)]] [(0:Int)=((0:Nat):Int),0<1,Di,Qb (z+8),Qb (z+8),Qb (z+8),Qb n24,Qb n24,Qb n24,Qb n24,Qb n24,Qb (n24+1),Qb (n24+1)] [(FZ z),(Gf z),(Gh w8),(N9 z),(79,i6 1),(80,i6 0),(14,pt n24),(SS n24)] ⟨w,n24+2,(TK w8 z ax10 cp11 ax22 y21 cp23 n24 lay9 n12 w6 W5 w)⟩ rfl ⟨rfl,(by omega),rfl,rfl,rfl,rfl,rfl,rfl,rfl,rfl,rfl,rfl,rfl,Af⟩ ?_
 refine Eo 11 [0,1,2,3,4,5,6,7,8,9,10,11,12,13,14,15,16,17,18,19,20,21,22] (TK w8 z ax10 cp11 ax22 y21 cp23 n24 lay9 n12 w6 W5 w) rfl rfl ?_
 refine D6 [(0,o0),(1,o0),(2,o0),(3,(a1 15)),(4,(an 2 22)),(5,(a1 14)),(6,o0),(7,o0),(8,o0),(9,o0),(10,o0)] [1,2,10,78,79,80,14,15,17] [Qb (w8.heap.size+2),Qb (n24+1),Qb (n24+1),Qb (w8.heap.size+1)] (DC 11 0) [(FZ z),(Gf z),(Gh w8),(N9 z),(79,i6 1),(80,i6 0),(14,pt n24),(SS n24),(17,.bool false)] ⟨rfl,rfl,rfl,rfl,Af⟩ ?_
 refine Dl ?_
 refine BR [1,2,10,78,79,80,14,15,17] [(FZ z),(Gf z),(Gh w8),(N9 z),(79,i6 1),(80,i6 0),(14,pt n24),(SS n24),(17,.bool false)] ?_
 refine IV <| DW <| DW <| Eo 37 [0,1,2,3,4,5,6,7,8,9,10,11,12,13,14,15,16,17,18,19,20,21,22] (TK w8 z ax10 cp11 ax22 y21 cp23 n24 lay9 n12 w6 W5 w) rfl rfl ?_
 refine D6 [(0,o0),(1,o0),(2,o0),(3,(a1 21)),(4,o0),(5,o0),(6,o0),(7,o0),(8,(a1 21)),(9,o0),(10,(a1 10)),(11,o0),(12,o0),(13,o0),(14,o0),(15,o0),(16,(a1 21)),(17,o0),(18,o0),(19,o0),(20,o0),(21,(a1 21)),(22,o0),(23,o0),(24,o0),(25,o0),(26,(a1 21)),(27,o0),(28,o0),(29,(a1 10)),(30,o0),(31,(a1 21)),(32,(oi 0)),(33,o0),(34,(a1 7)),(35,o0),(36,o0)] [1,2,10,78,79,80,14,15,100,101,102,105,106,107,108,109,110,113,114,115,118,119,120,123,124,125,126,127,128,129,130,131,132,133,134] [Qb n24,Qb n24,Qb (z+9),Qb n24,Qb n24,Qb n24,Qb (z+9),Qb n24,(0:Int)=((0:Nat):Int),0<1,Di,Qb (z+6)] (DC 37 0) [(FZ z),(Gf z),(Gh w8),(N9 z),(79,i6 1),(80,i6 0),(14,pt n24),(SS n24),(QG n24),(101,i6 0),(102,.bool false),(Rn n24),(106,i6 0),(Rf z),(QV z),(109,i6 1),(110,.bool false),(QR n24),(114,i6 3),(115,.bool false),(QE n24),(119,i6 3),(120,.bool false),(QU n24),(QI z),(125,i6 1),(QH z),(QZ z),(QF n24),(129,i6 0),(QL z),(Ro z),(132,i6 1),(133,.bool false),(134,.bool false)] ⟨rfl,rfl,rfl,rfl,rfl,rfl,rfl,rfl,rfl,(by omega),rfl,rfl,Af⟩ ?_
 refine Dl ?_
 refine BR [1,2,10,78,79,80,14,15,100,101,102,105,106,107,108,109,110,113,114,115,118,119,120,123,124,125,126,127,128,129,130,131,132,133,134] [(FZ z),(Gf z),(Gh w8),(N9 z),(79,i6 1),(80,i6 0),(14,pt n24),(SS n24),(QG n24),(101,i6 0),(102,.bool false),(Rn n24),(106,i6 0),(Rf z),(QV z),(109,i6 1),(110,.bool false),(QR n24),(114,i6 3),(115,.bool false),(QE n24),(119,i6 3),(120,.bool false),(QU n24),(QI z),(125,i6 1),(QH z),(QZ z),(QF n24),(129,i6 0),(QL z),(Ro z),(132,i6 1),(133,.bool false),(134,.bool false)] ?_
 refine IV <| X6 <| g_skip <| IV <| Eo 8 [0,1,2,3,4,5,6,7,8,9,10,11,12,13,14,15,16,17,18,19,20,21,22] (TK w8 z ax10 cp11 ax22 y21 cp23 n24 lay9 n12 w6 W5 w) rfl rfl ?_
 refine D6 [(0,o0),(1,o0),(2,o0),(3,(a1 15)),(4,(an 2 22)),(5,o0),(6,(a1 21))] [1,2,10,78,79,80,100,101,102,105,106,107,108,109,110,113,114,115,118,119,120,123,124,125,126,127,128,129,130,131,132,133,138,139,141] [Qb (w8.heap.size+2),Qb (n24+1),Qb (n24+1),Qb n24] (DC 7 2) [(FZ z),(Gf z),(Gh w8),(N9 z),(79,i6 1),(80,i6 0),(QG n24),(101,i6 0),(102,.bool false),(Rn n24),(106,i6 0),(Rf z),(QV z),(109,i6 1),(110,.bool false),(QR n24),(114,i6 3),(115,.bool false),(QE n24),(119,i6 3),(120,.bool false),(QU n24),(QI z),(125,i6 1),(QH z),(QZ z),(QF n24),(129,i6 0),(QL z),(Ro z),(132,i6 1),(133,.bool false),(138,.map (some (w8.heap.size+1))),(139,.agg #[i6 0,i6 3]),(141,.slice (some ⟨z+7,0,none⟩) 1 1)] ⟨rfl,rfl,rfl,rfl,Af⟩ ?_
 refine Bv 7 ?_
 refine Ii [] [] 19 #[.slice (some ⟨z+7,0,none⟩) 1 1] (some 142) (by as_aux_lemma=>kernel_rfl) rfl rfl Af ?_
 intro w26 hw26
 refine Cb (args:=[.slice (some ⟨z+7,0,none⟩) 1 1]) 8 ⟨w,n24+2,(TK w8 z ax10 cp11 ax22 y21 cp23 n24 lay9 n12 w6 W5 w)⟩ Tryd.func19 rfl (by kernel_rfl) (by kernel_rfl) hw26 ?_
 refine q_c 14 2 [0] [[o0],[o0,o0],[o0,o0]] [] [(5,.slice (some ⟨n24+2,0,none⟩) 0 0),(6,.slice (some ⟨z+7,0,none⟩) 1 1)] ⟨w,n24+3,[(Ak w),(IY z),(Jc z),(Ij z),(H7 z),(Je z),(Ic z),(Ji z),(I7 z),(Jp z),(JF z),(IX w6 W5),(mid (w6.heap.size+1) w8),(J5 w8 lay9),(Ch.blk (w8.heap.size+1) (.map #[] 0) true),(Pj w8 ax10 cp11 ax22 y21 cp23),(LV z ax10 cp11),(NZ z ax22 y21 cp23),(KG w8 z),(Ky w8),(Nl y21 n12),(OD z n24),(OY n24),(bk (n24+2) #[] 54)]⟩ rfl Af ?_
 refine l_blkrow 23 (n24+2) z 54 1 (fun x:Int=>[Value.int .u32 x]) ([]:List Int) #[] (by omega) (?_:Lg _ _ _ _ ⟨w,n24+3,[(Ak w),(IY z),(Jc z),(Ij z),(H7 z),(Je z),(Ic z),(Ji z),(I7 z),(Jp z),(JF z),(IX w6 W5),(mid (w6.heap.size+1) w8),(J5 w8 lay9),(Ch.blk (w8.heap.size+1) (.map #[] 0) true),(Pj w8 ax10 cp11 ax22 y21 cp23),(LV z ax10 cp11),(NZ z ax22 y21 cp23),(KG w8 z),(Ky w8),(Nl y21 n12),(OD z n24),(OY n24),(Ci z 54 1 (fun x:Int=>[Value.int .u32 x]) (.slice (some ⟨n24+2,0,none⟩) 0 0) ([]:List Int))]⟩ _ _ _ _)
 refine MO z 23 8 ([]:List Int) [77] (fun x:Int=>[Value.int .u32 x]) 54 1 4 (.slice (some ⟨n24+2,0,none⟩) 0 0) (z+7) 1 1 #[.int .u32 77] 54 (0,0) true (some 7) (by simp only[List.length_cons,List.length_nil];omega) (show z≤n24+3 by omega) (fun ax27 cp28 n29 (hn30:n24+3≤n29) => ?_)
 refine Cc 3 0 [] [[o0]] [] [(2,.slice ax27 1 cp28)] rfl Af ?_
 refine AO [] [] (.slice ax27 1 cp28) Af ?_
 intro w31 hw31
 have hs32:=hw31
 refine⟨_,_,rfl,hs32,.inr (fun c hc=>hs32.all c (by first | exact hc | exact Ei (is:=[0,1,2,3,4,5,6,7,8,9,10,11,12,13,14,15,16,17,18,19,20,21,22]) rfl c hc)), ?_⟩
 refine Dt [1,2,10,78,79,80,100,101,102,105,106,107,108,109,110,113,114,115,118,119,120,123,124,125,126,127,128,129,130,131,132,133,138,139,142] [(FZ z),(Gf z),(Gh w8),(N9 z),(79,i6 1),(80,i6 0),(QG n24),(101,i6 0),(102,.bool false),(Rn n24),(106,i6 0),(Rf z),(QV z),(109,i6 1),(110,.bool false),(QR n24),(114,i6 3),(115,.bool false),(QE n24),(119,i6 3),(120,.bool false),(QU n24),(QI z),(125,i6 1),(QH z),(QZ z),(QF n24),(129,i6 0),(QL z),(Ro z),(132,i6 1),(133,.bool false),(138,.map (some (w8.heap.size+1))),(139,.agg #[i6 0,i6 3]),(142,.slice ax27 1 cp28)] ?_
 refine Bv 8 ?_
 refine BC (an 2 14) [1,2,10,78,79,80,100,101,102,105,106,107,108,109,110,113,114,115,118,119,120,123,124,125,126,127,128,129,130,131,132,133] [Qb (w8.heap.size+1),Qb (w8.heap.size+1)] [(FZ z),(Gf z),(Gh w8),(N9 z),(79,i6 1),(80,i6 0),(QG n24),(101,i6 0),(102,.bool false),(Rn n24),(106,i6 0),(Rf z),(QV z),(109,i6 1),(110,.bool false),(QR n24),(114,i6 3),(115,.bool false),(QE n24),(119,i6 3),(120,.bool false),(QU n24),(QI z),(125,i6 1),(QH z),(QZ z),(QF n24),(129,i6 0),(QL z),(Ro z),(132,i6 1),(133,.bool false)] ⟨w,n29,(ZJ w8 z ax10 cp11 ax22 y21 cp23 n24 lay9 n12 w6 W5 cp28 ax27 w)⟩ [] ⟨rfl,rfl,Af⟩ (.inl rfl) ?_
 refine DV 9 [0,1,2,3,4,5,6,7,8,9,10,11,12,13,14,15,16,17,18,19,20,21,22,23] (ZJ w8 z ax10 cp11 ax22 y21 cp23 n24 lay9 n12 w6 W5 cp28 ax27 w) rfl rfl ?_
 refine Dl ?_
 refine Oi 4 0 [] [[o0,o0]] [] [(FZ z),(Gf z),(Gh w8),(N9 z),(79,i6 1),(80,i6 1),(QG n24),(101,i6 0),(102,.bool false),(Rn n24),(106,i6 0),(Rf z),(QV z),(109,i6 1),(110,.bool false),(QR n24),(114,i6 3),(115,.bool false),(QE n24),(119,i6 3),(120,.bool false),(QU n24),(QI z),(125,i6 1),(QH z),(QZ z),(QF n24),(129,i6 0),(QL z),(Ro z),(132,i6 1),(133,.bool false)] rfl Af ?_
 refine VS ?_
 refine Az 17 0 [0] [[o0],[o0,o0,o0]] [] [(Gh w8),(144,.slice (some ⟨z+8,0,none⟩) 1 1),(145,i6 1),(146,i6 0)] rfl Af ?_
 refine VP 40 ?_
 refine q_c 24 0 [1,0] [[o0],[(oi 0),(an 3 9),o0,(an 3 24)],[o0,(a1 24),o0,o0],[o0,o0]] [(0:Int)=((0:Nat):Int),0<1,Di,Qb (z+8),Qb (z+8),Qb (z+8),Qb n29,Qb n29,Qb n29,Qb n29] [(Gh w8),(144,.slice (some ⟨z+8,0,none⟩) 1 1),(145,i6 1),(146,i6 1)] ⟨w,n29+1,[(Ak w),(IY z),(Jc z),(Ij z),(H7 z),(Je z),(Ic z),(Ji z),(I7 z),(Jp z),(JF z),(IX w6 W5),(mid (w6.heap.size+1) w8),(J5 w8 lay9),(Ch.blk (w8.heap.size+1) (.map #[{ key:= .agg #[i6 0,i6 3],val:= .slice ax27 1 cp28,born:=0 }] 1) true),(Pj w8 ax10 cp11 ax22 y21 cp23),(LV z ax10 cp11),(NZ z ax22 y21 cp23),(KG w8 z),(Ky w8),(Nl y21 n12),(OD z n24),(OY n24),(WT z cp28 ax27),(V9 z n29)]⟩ rfl ⟨rfl,(by omega),rfl,rfl,rfl,rfl,rfl,rfl,rfl,rfl,Af⟩ ?_
 refine VS ?_
 refine Az 16 0 [0] [[o0],[o0,o0,o0]] [] [(4,pt (w8.heap.size+2)),(5,i6 0)] rfl Af ?_
 refine AO [] [] (.tuple #[pt (w8.heap.size+2),i6 0]) Af ?_
 intro w33 hw33
 refine⟨_,_,rfl,hw33, ?_⟩
 refine Cc 4 0 [] [[o0,o0,o0,o0,o0]] [] [(1,pt (w8.heap.size+2)),(2,i6 0)] rfl Af ?_
 refine l_call [] [] 10 #[i6 16] (some 22) Af ?_
 intro w34 hw34
 refine(Ug w34 16 (by omega) (by omega)).mono ?_
 rintro e w35 ⟨mq36,ax37,cp38,rfl,hqw35,w39,hOw35,hkw35⟩
 have hnw35:n29+1≤w35.heap.size:=Ik hw34 hkw35
 rw[show w34.heap.size=n29+1 from hw34.size]at hOw35 hqw35
 refine⟨_,_,rfl,hw34.ZaE hkw35 hOw35 (Y3 hOw35 hqw35), ?_⟩
 refine Cc 12 1 [0] [[o0,o0,o0,o0,o0],[o0,o0,o0,o0,o0,o0,o0,o0,o0,o0,o0,o0,o0,o0],[o0]] [] [(1,pt (w8.heap.size+2)),(3,pt mq36),(40,pt (w8.heap.size+2))] rfl Af ?_
 refine l_call [] [] 13 #[pt (w8.heap.size+2),i6 0,i6 3,.int .u32 0] (some 41) Af ?_
 intro w40 hw40
 refine Cb (args:=[pt (w8.heap.size+2),i6 0,i6 3,.int .u32 0]) 31 ⟨w,w35.heap.size,[(Ak w),(IY z),(Jc z),(Ij z),(H7 z),(Je z),(Ic z),(Ji z),(I7 z),(Jp z),(JF z),(IX w6 W5),(mid (w6.heap.size+1) w8),(J5 w8 lay9),(Ch.blk (w8.heap.size+1) (.map #[{ key:= .agg #[i6 0,i6 3],val:= .slice ax27 1 cp28,born:=0 }] 1) true),(Pj w8 ax10 cp11 ax22 y21 cp23),(LV z ax10 cp11),(NZ z ax22 y21 cp23),(KG w8 z),(Ky w8),(Nl y21 n12),(OD z n24),(OY n24),(WT z cp28 ax27),(V9 z n29),(bk mq36 #[.slice ax37 256 cp38] 81),(Xx n29 ax37 cp38)]⟩ Tryd.func13 rfl (by kernel_rfl) (by kernel_rfl) hw40 ?_
 refine Az 25 0 [0,0] [[o0,o0],[o0,o0],[o0,o0,o0,(a1 15),o0,o0,o0,(a1 14),o0],[o0,o0,o0,o0,o0,o0]] [Qb (w8.heap.size+2),Qb (w8.heap.size+1)] [(3,.int .u32 0),(10,.slice ax27 1 cp28),(26,.bool false)] rfl ⟨rfl,rfl,Af⟩ ?_
 refine JS (base:=z) (e:=54) (sz:=1) (cells:=(fun x:Int=>[Value.int .u32 x])) (a:=ax27) (n:=1) (cap:=cp28) (xs:=(([]:List Int)++[77])) 23 (by exact(show 0<1 by decide)) (fun b41 hg42 hb43 => ?_)
 subst hg42
 refine Eo 6 [0,1,2,3,4,5,6,7,8,9,10,11,12,13,14,15,16,17,18,19,20,21,22,23,24,25,26] (X5 w8 z ax10 cp11 ax22 y21 cp23 n24 n29 lay9 n12 w6 W5 b41 cp28 ax37 cp38 w mq36) rfl rfl ?_
 refine D6 [(0,o0),(1,o0),(2,(oi 0)),(3,(oa [.via 23 (.int .u32 77)])),(4,o0),(5,o0)] [8,9] [(0:Int)=((0:Nat):Int),0<1,Di,∀ w',Ch.holds (Xh z b41 cp28) w'→w'.cell? ⟨b41,0,none⟩=some (.int .u32 77)] (DC 6 0) [(8,i6 0),(9,.int .u32 77)] ⟨rfl,(by omega),rfl,FI (sz:=1) (j:=0) (k:=0) (fun _=>rfl) (by exact(show 0<1 by decide)) (by rfl),Af⟩ ?_
 refine Dl ?_
 refine BR [8,9] [(8,i6 0),(9,.int .u32 77)] ?_
 refine IV <| KP <| AO [] [] (.tuple #[i6 0,.int .u32 77]) Af ?_
 intro w44 hw44
 refine⟨_,_,rfl,hw44, ?_⟩
 refine Cc 4 1 [] [[o0,o0,o0,o0,o0],[o0]] [] [(1,pt (w8.heap.size+2)),(3,pt mq36),(5,i6 0),(6,.int .u32 77),(45,pt (w8.heap.size+2))] rfl Af ?_
 refine l_call [] [] 13 #[pt (w8.heap.size+2),i6 0,i6 4,.int .u32 0] (some 46) Af ?_
 intro w45 hw45
 refine Cb (args:=[pt (w8.heap.size+2),i6 0,i6 4,.int .u32 0]) 31 ⟨w,w35.heap.size,(X5 w8 z ax10 cp11 ax22 y21 cp23 n24 n29 lay9 n12 w6 W5 b41 cp28 ax37 cp38 w mq36)⟩ Tryd.func13 rfl (by kernel_rfl) (by kernel_rfl) hw45 ?_
 refine Az 27 0 [0,1] [[o0,o0],[o0,o0],[o0,o0,o0,(a1 15),o0,o0,o0,(a1 14),o0],[o0,o0,o0,o0,o0,o0],[o0,o0]] [Qb (w8.heap.size+2),Qb (w8.heap.size+1)] [(8,i6 7),(9,.int .u32 0)] rfl ⟨rfl,rfl,Af⟩ ?_
 refine AO [] [] (.tuple #[i6 7,.int .u32 0]) Af ?_
 intro w46 hw46
 refine⟨_,_,rfl,hw46, ?_⟩
 refine Cc 4 2 [] [[o0,o0,o0,o0,o0],[o0,o0]] [] [(1,pt (w8.heap.size+2)),(3,pt mq36),(5,i6 0),(6,.int .u32 77),(7,i6 7),(8,.int .u32 0),(50,pt (w8.heap.size+2)),(51,pt mq36)] rfl Af ?_
 refine l_call [] [] 12 #[pt (w8.heap.size+2),pt mq36,i6 0] (some 52) Af ?_
 intro w47 hw47
 (try dsimp only[KG,Pj,Jc,JF,IY,Je,Ji,Jp,OD,V9,Ic,Ij,H7,OY,Ky,J5,Nl,IX,I7,NZ,Xh,Xx,LV,X5]at hw47)
 rw[show y21.State+4=(153:Int)from by rw[hst];rfl]at hw47
 have hq49:=hw47.pick [15,16,17,25,26] rfl rfl
 have hgo:=Yc w47 w z (w8.heap.size+2) 16 1 [1] [153] ax10 cp11 ax22 cp23 (.map (some (w8.heap.size+1))) (n29+1) mq36 ax37 256 cp38 (List.replicate 256 0) (by rw[hw47.size];exact hq49) _ rfl (by have:=hw47.size;simp only[]at this;omega) (by have:=hw47.size;simp only[]at this;omega) TZ 0 (by exact⟨by decide,by decide⟩);rw[Zao]at hgo
 refine hgo.mono ?_
 rintro e w48 ⟨rfl,hSw48,hkw48⟩
 have hnw48:w35.heap.size≤w48.heap.size:=Ik hw47 hkw48
 refine⟨_,_,rfl,hw47.turn [0,1,2,3,4,5,6,7,8,9,10,11,12,13,14,18,19,20,21,22,23,24] [15,16,17,25,26] rfl rfl rfl (by decide) (fun c hc=>by simp only[List.mem_cons,List.not_mem_nil,or_false]at hc;rcases hc with rfl | rfl | rfl | rfl | rfl <;> rfl) hkw48 (fun c hc=>⟨hSw48.all c hc,hSw48.ND c hc,fun b hb=>⟨hSw48.bnd c hc b hb,.inl (WM ⟨c,hc,hb⟩)⟩⟩) hSw48.LY, ?_⟩
 refine Cc 4 2 [] [[o0,o0,o0,o0,o0],[o0,o0]] [] [(5,i6 0),(6,.int .u32 77),(7,i6 7),(8,.int .u32 0),(9,i6 0),(10,i6 0),(56,pt (w8.heap.size+2)),(57,pt mq36)] rfl Af ?_
 refine l_call [] [] 12 #[pt (w8.heap.size+2),pt mq36,i6 0] (some 58) Af ?_
 intro w50 hw50
 have hq52:=hw50.pick [22,23,24,25,26] rfl rfl
 have hgo:=Yc w50 w z (w8.heap.size+2) 16 1 [1] [153] ax10 cp11 ax22 cp23 (.map (some (w8.heap.size+1))) (n29+1) mq36 ax37 256 cp38 ((List.replicate 256 0).set 153 1) (by rw[hw50.size];exact hq52) _ rfl (by have:=hw50.size;simp only[]at this;omega) (by have:=hw50.size;simp only[]at this;omega) (Zbd TZ (by decide)) 0 (by exact⟨by decide,by decide⟩);rw[Zaa]at hgo
 refine hgo.mono ?_
 rintro e w51 ⟨rfl,hSw51,hkw51⟩
 have hnw51:w48.heap.size≤w51.heap.size:=Ik hw50 hkw51
 refine⟨_,_,rfl,hw50.turn [0,1,2,3,4,5,6,7,8,9,10,11,12,13,14,15,16,17,18,19,20,21] [22,23,24,25,26] rfl rfl rfl (by decide) (fun c hc=>by simp only[List.mem_cons,List.not_mem_nil,or_false]at hc;rcases hc with rfl | rfl | rfl | rfl | rfl <;> rfl) hkw51 (fun c hc=>⟨hSw51.all c hc,hSw51.ND c hc,fun b hb=>⟨hSw51.bnd c hc b hb,.inl (WM ⟨c,hc,hb⟩)⟩⟩) hSw51.LY, ?_⟩
 refine Cc 7 0 [] [[o0,o0,o0,o0,o0],[o0,o0,o0,o0,o0,o0,o0,o0,o0,o0,o0,o0,o0,o0,o0,o0,o0,o0,o0,o0,o0,o0,o0,o0,o0,o0,o0,o0,o0,o0,o0]] [] [(0,.bool true)] rfl Af ?_
 refine AO [] [] (.bool true) Af ?_
 intro w53 hw53
 exact⟨rfl,Bi hw53⟩
end Go.Proofs.YtjdmhijaanmccaaDoor.Dv
namespace Go.Proofs.YtjdmhijaanmccaaDoor.Ly
open Go Go.Proofs.YtjdmhijaanmccaaDoor.Eng Go.Proofs.YtjdmhijaanmccaaDoor.Mem
set_option linter.unusedSimpArgs false
set_option linter.unusedVariables false
set_option maxRecDepth 100000
def Yv(t:Nat)(g:BD):Bool:=decide (g.BP / 16≤(t:Int)∧(t:Int)≤(g.BP+g.BH - 1) / 16)
def GL(x:Aq)(t:Nat):Bool:=x.Ai.xs.any (Yv t)
theorem any_yes{α:Type}[Inhabited α]{p:α→Bool}{xs:List α}{k:Nat}(hk:k<xs.length)(h:p (gd xs k)=true):xs.any p=true:=by
 rw[List.any_eq_true];rw[F8 hk]at h;exact⟨xs[k],List.getElem_mem hk,h⟩
theorem ZaM{α:Type}[Inhabited α]{p:α→Bool}{xs:List α}(h:∀ i,i<xs.length→p (gd xs i)=false):xs.any p=false:=by
 rw[List.any_eq_false]
 intro y hy
 obtain⟨i,hi,rfl⟩:=List.getElem_of_mem hy
 have:=h i hi
 rw[F8 hi]at this
 simp[this]
theorem touch_tab{x:Aq}(hr:∀ i,i<x.Ai.xs.length→Jo (gd x.Ai.xs i)=true)(t:Nat):GL x t=(Fg x x.Ai.xs.length).contains t:=by
 rw[Bool.eq_iff_iff]
 unfold GL Fg MS
 simp only[List.any_eq_true,List.contains_iff_mem,List.mem_flatMap,List.mem_range,List.mem_map,Yv,decide_eq_true_eq]
 constructor
 ·rintro⟨g,hg,h1,h2⟩
  obtain⟨i,hi,rfl⟩:=List.getElem_of_mem hg
  have h3:=hr i hi
  unfold Jo at h3
  rw[decide_eq_true_eq]at h3
  rw[F8 hi]at h3
  refine⟨i,hi, ?_⟩
  rw[F8 hi]
  by_cases hp:x.Ai.xs[i].BP≤16*(t:Int)
  ·exact⟨(16*(t:Int) - x.Ai.xs[i].BP).toNat,by omega,by omega⟩
  exact⟨0,by omega,by omega⟩
 rintro⟨i,hi,k,hk,h⟩
 have h3:=hr i hi
 unfold Jo at h3
 rw[decide_eq_true_eq]at h3
 refine⟨gd x.Ai.xs i,by rw[F8 hi];exact List.getElem_mem hi,by omega,by omega⟩
theorem WN{c:Aj}{k:Int}{b:Bool}(i:Nat):∀ (n:Nat),i≤n→∃ r,CU c k b n=CU c k b i++r
 | 0,h=>⟨[],by rw[Nat.le_zero.1 h];simp⟩
 | n+1,h=>by
  by_cases e:i=n+1
  ·exact⟨[],by rw[e];simp⟩
  obtain⟨r,hr⟩:=WN (c:=c) (k:=k) (b:=b) i n (by omega)
  exact⟨_,by rw[Kv,hr,List.append_assoc]⟩
theorem Uj{p:Nat}{x:Aq}{k:Int}{b:Bool}(j:Nat):∀ (n:Nat),j≤n→∃ r,Cm p x k b n=Cm p x k b j++r
 | 0,h=>⟨[],by rw[Nat.le_zero.1 h];simp⟩
 | n+1,h=>by
  by_cases e:j=n+1
  ·exact⟨[],by rw[e];simp⟩
  obtain⟨r,hr⟩:=Uj (p:=p) (x:=x) (k:=k) (b:=b) j n (by omega)
  cases hs:Hz k b (gd x.Ar.xs n)
  ·exact⟨r,by rw[JM hs,hr]⟩
  exact⟨_,by rw[NJ hs,hr,List.append_assoc]⟩
theorem Za9{c:Aj}{k:Int}{b:Bool}{i j:Nat}(hi:i<c.Aa.xs.length)(hj:j<(gd c.Aa.xs i).Ar.xs.length)(h1:CU c k b i=[])(h2:Cm i (gd c.Aa.xs i) k b j=[])(h3:Hz k b (gd (gd c.Aa.xs i).Ar.xs j)=true):gd (BV c k b) 0=⟨(i:Int),(j:Int)⟩:=by
 obtain⟨r1,e1⟩:=WN (c:=c) (k:=k) (b:=b) (i+1) c.Aa.xs.length (by omega)
 obtain⟨r2,e2⟩:=Uj (p:=i) (x:=gd c.Aa.xs i) (k:=k) (b:=b) (j+1) (gd c.Aa.xs i).Ar.xs.length (by omega)
 unfold BV
 rw[e1,Kv,h1,e2,NJ h3,h2]
 simp[gd]
theorem no_end{c:Aj}{k:Int}{b:Bool}(h:BV c k b=[]):gd (BV c k b) 0=⟨0,0⟩:=by rw[h];rfl
section
variable (x:Aq)
abbrev Rw:=(10,Ac x.Ai.xs.length)
end
theorem Ym(w:World)(x:Aq)(t:Nat)(ht:t<16)(hx:Aq.ok Any w x)(hr:∀ i,i<x.Ai.xs.length→Jo (gd x.Ai.xs i)=true):Calls Tryd.prog 57 #[.agg (Aq.arr x),.int .i64 (t:Int)] w fun e w'=>e = .returned (.bool (GL x t))∧CZ (fun _=>False) w w':=by
 obtain⟨z,hz⟩:∃ z,z=w.heap.size:=⟨_,rfl⟩
 refine Cb (args:=[.agg (Aq.arr x),Ac t]) 40 ⟨w,z,[(Ak w)]⟩ Tryd.func57 rfl (by kernel_rfl) (by kernel_rfl) (ES hz) ?_
 have hlR:=hx.Ai.1.len
 refine Ee [0,1] [(0,.agg (Aq.arr x)),(1,Ac t)] ?_
 refine q_c 10 0 [] [[o0,o0],[o0,(a1 1),o0,o0]] [Qb z] [(1,Ac t),(2,pt z),(Rw x),(11,i6 0)] ⟨w,z+1,[(Ak w),(bk z (Aq.arr x) 52)]⟩ rfl ⟨rfl,Af⟩ ?_
 refine DY (fun m a w'=>∃ (n2:Nat) (i:Nat),m=x.Ai.xs.length - i∧z+1≤n2∧(i≤x.Ai.xs.length)∧(∀ q,q<i→Yv t (gd x.Ai.xs q)=false)∧St 40 [(1,Ac t),(2,pt z),(Rw x),(11,Ac i)] [] ⟨w,n2,[(Ak w),(bk z (Aq.arr x) 52)]⟩ a w') (x.Ai.xs.length - 0) ?_ ?_
 ·intro a w' hs;exact⟨(z+1),0,rfl,Nat.le_refl _,Nat.zero_le _,fun q hq=>absurd hq (Nat.not_lt_zero q),hs⟩
 rintro m a w' ⟨n2,i,rfl,hn1,hki,hq0,hs⟩
 refine(?_:G Tryd.prog 40 [(1,Ac t),(2,pt z),(Rw x),(11,Ac i)] [] ⟨w,n2,[(Ak w),(bk z (Aq.arr x) 52)]⟩ _ _ _) a w' hs
 clear hs a w'
 refine DW ?_
 by_cases h3:(i:Int)<(x.Ai.xs.length:Int)
 ·refine Az 14 0 [1] [[oT],[o0,o0]] [BT ((i:Int)<(x.Ai.xs.length:Int))] [(1,Ac t),(2,pt z),(Rw x),(11,Ac i),(5,Ac i)] rfl ⟨bt,Af⟩ ?_
  obtain⟨b4,o5,ha6,hF8,hc7⟩:=(hx.Ai).1.all (show 0<x.Ai.xs.length by omega)
  replace ha6:x.Ai.a=some ⟨b4,o5,none⟩:=ha6
  have hc9:=hc7 i (show i<x.Ai.xs.length by omega)
  have he10:=(hx.Ai).2 i (show i<x.Ai.xs.length by omega)
  obtain⟨y11,hy11⟩:∃ y_,y_=gd x.Ai.xs i:=⟨_,rfl⟩
  rw[←hy11]at he10 hc9
  have hrg:=hr i (by omega);rw[←hy11]at hrg;unfold Jo at hrg;rw[decide_eq_true_eq]at hrg
  refine Az 8 0 [] [[o0,(Gy 1 b4 o5 x.Ai),o0,(oi i),o0,(oa [.via 0 (i6 y11.BP)]),o0],[o0,o0,(Gy 1 b4 o5 x.Ai),o0,(oi i),o0,(oa [.via 0 (i6 y11.BH)]),(ov (i6 (y11.BP+y11.BH))),(ov (i6 ((y11.BP+y11.BH) - 1))),o0]] [Qb z,FO b4 o5 x.Ai,DJ i,i<x.Ai.xs.length,Di,Old w b4 (o5+i*4) (i6 y11.BP),Qb z,FO b4 o5 x.Ai,DJ i,i<x.Ai.xs.length,Di,Old w b4 (o5+i*4+1) (i6 y11.BH),Wr ((y11.BP:Int)+y11.BH) (y11.BP+y11.BH),Wr ((y11.BP+y11.BH:Int) - 1) ((y11.BP+y11.BH) - 1)] [(1,Ac t),(2,pt z),(Rw x),(11,Ac i),(6,i6 y11.BP),(7,i6 ((y11.BP+y11.BH) - 1))] rfl ⟨rfl,FP ha6,rfl,(by omega),rfl,Aw (hc9 0 _ rfl),rfl,FP ha6,rfl,(by omega),rfl,Aw (hc9 1 _ rfl),CB,CB,Af⟩ ?_
  by_cases h12:(t:Int)<y11.BP / 16
  ·refine Az 9 0 [0] [[o0,(ov (i6 (y11.BP / 16))),o0,oF,o0,o0],[(ov (i6 ((i+1:Nat):Int))),o0]] [Wr (Int.tdiv (y11.BP) 16) (y11.BP / 16),BF ((y11.BP / 16:Int)≤(t:Int)),Wr ((i:Int)+1) (((i+1:Nat):Int))] [(1,Ac t),(2,pt z),(Rw x),(11,i6 ((i+1:Nat):Int))] rfl ⟨congrArg (Value.int .i64) (Nc (by omega) (by omega) (by omega)),bf,CB,Af⟩ ?_
   refine Cf (fun a w' hs=>⟨x.Ai.xs.length - (i+1),by omega,n2,(i+1),rfl,by omega,by omega,upto hq0 (by rw[←hy11];exact decide_eq_false (by omega)),hs⟩)
  by_cases h13:(((y11.BP+y11.BH) - 1) / 16:Int)<(t:Int)
  ·refine Az 9 0 [0] [[o0,(ov (i6 (y11.BP / 16))),o0,oT,o0,o0,o0,(ov (i6 (((y11.BP+y11.BH) - 1) / 16))),oF,o0],[(ov (i6 ((i+1:Nat):Int))),o0]] [Wr (Int.tdiv (y11.BP) 16) (y11.BP / 16),BT ((y11.BP / 16:Int)≤(t:Int)),Wr (Int.tdiv ((y11.BP+y11.BH) - 1) 16) (((y11.BP+y11.BH) - 1) / 16),BF ((t:Int)≤(((y11.BP+y11.BH) - 1) / 16)),Wr ((i:Int)+1) (((i+1:Nat):Int))] [(1,Ac t),(2,pt z),(Rw x),(11,i6 ((i+1:Nat):Int))] rfl ⟨congrArg (Value.int .i64) (Nc (by omega) (by omega) (by omega)),bt,congrArg (Value.int .i64) (Nc (by omega) (by omega) (by omega)),bf,CB,Af⟩ ?_
   refine Cf (fun a w' hs=>⟨x.Ai.xs.length - (i+1),by omega,n2,(i+1),rfl,by omega,by omega,upto hq0 (by rw[←hy11];exact decide_eq_false (by omega)),hs⟩)
  refine Az 9 0 [1] [[o0,(ov (i6 (y11.BP / 16))),o0,oT,o0,o0,o0,(ov (i6 (((y11.BP+y11.BH) - 1) / 16))),oT,o0],[o0]] [Wr (Int.tdiv (y11.BP) 16) (y11.BP / 16),BT ((y11.BP / 16:Int)≤(t:Int)),Wr (Int.tdiv ((y11.BP+y11.BH) - 1) 16) (((y11.BP+y11.BH) - 1) / 16),BT ((t:Int)≤(((y11.BP+y11.BH) - 1) / 16))] [(4,.bool true)] rfl ⟨congrArg (Value.int .i64) (Nc (by omega) (by omega) (by omega)),bt,congrArg (Value.int .i64) (Nc (by omega) (by omega) (by omega)),bt,Af⟩ ?_
  refine AO [] [] (.bool true) Af ?_
  intro w14 hw14
  refine⟨congrArg (fun b=>Ending.returned (Value.bool b)) (Eq.symm (?_:GL x t=true)),Bi hw14⟩
  exact any_yes (k:=i) (by omega) (by rw[←hy11];exact decide_eq_true ⟨by omega,by omega⟩)
 refine Az 15 0 [0] [[oF],[o0]] [BF ((i:Int)<(x.Ai.xs.length:Int))] [(4,.bool false)] rfl ⟨bf,Af⟩ ?_
 refine AO [] [] (.bool false) Af ?_
 intro w15 hw15
 refine⟨congrArg (fun b=>Ending.returned (Value.bool b)) (Eq.symm (?_:GL x t=false)),Bi hw15⟩
 exact ZaM (fun q hq=>hq0 q (by omega))
section
variable (z:Nat)(c:Aj)(y11:Aq)
abbrev U9:=bk z (Aj.arr c) 26
abbrev MX:=(10,Ac c.Aa.xs.length)
abbrev RQ:=(20,Ac y11.Ar.xs.length)
end
theorem Y5(w:World)(c:Aj)(ch:Int)(hc:Aj.ok Any w c):Calls Tryd.prog 31 #[.agg (Aj.arr c),.int .i64 ch] w fun e w'=>e = .returned (.tuple #[.int .i64 (gd (BV c ch true) 0).partition,.int .i64 (gd (BV c ch true) 0).port])∧CZ (fun _=>False) w w':=by
 obtain⟨z,hz⟩:∃ z,z=w.heap.size:=⟨_,rfl⟩
 refine Cb (args:=[.agg (Aj.arr c),i6 ch]) 52 ⟨w,z,[(Ak w)]⟩ Tryd.func31 rfl (by kernel_rfl) (by kernel_rfl) (ES hz) ?_
 have hlP:=hc.Aa.1.len
 refine Ee [0,1] [(0,.agg (Aj.arr c)),(1,i6 ch)] ?_
 refine q_c 10 0 [] [[o0,o0,o0],[o0,(a1 1),o0,o0]] [Qb z] [(1,i6 ch),(2,pt z),(MX c),(11,i6 0)] ⟨w,z+1,[(Ak w),(U9 z c)]⟩ rfl ⟨rfl,Af⟩ ?_
 refine DY (fun m a w'=>∃ (n2:Nat) (i:Nat),m=c.Aa.xs.length - i∧z+1≤n2∧(i≤c.Aa.xs.length)∧(CU c ch true i=[])∧St 52 [(1,i6 ch),(2,pt z),(MX c),(11,Ac i)] [] ⟨w,n2,[(Ak w),(U9 z c)]⟩ a w') (c.Aa.xs.length - 0) ?_ ?_
 ·intro a w' hs;exact⟨(z+1),0,rfl,Nat.le_refl _,Nat.zero_le _,rfl,hs⟩
 rintro m a w' ⟨n2,i,rfl,hn1,hki,heu,hs⟩
 refine(?_:G Tryd.prog 52 [(1,i6 ch),(2,pt z),(MX c),(11,Ac i)] [] ⟨w,n2,[(Ak w),(U9 z c)]⟩ _ _ _) a w' hs
 clear hs a w'
 refine DW ?_
 by_cases h3:(i:Int)<(c.Aa.xs.length:Int)
 ·refine Az 14 0 [1] [[oT],[o0,o0]] [BT ((i:Int)<(c.Aa.xs.length:Int))] [(1,i6 ch),(2,pt z),(MX c),(11,Ac i),(6,Ac i)] rfl ⟨bt,Af⟩ ?_
  obtain⟨b4,o5,ha6,hF8,hc7⟩:=(hc.Aa).1.all (show 0<c.Aa.xs.length by omega)
  replace ha6:c.Aa.a=some ⟨b4,o5,none⟩:=ha6
  have hc9:=hc7 i (show i<c.Aa.xs.length by omega)
  have he10:=(hc.Aa).2 i (show i<c.Aa.xs.length by omega)
  obtain⟨y11,hy11⟩:∃ y_,y_=gd c.Aa.xs i:=⟨_,rfl⟩
  rw[←hy11]at he10 hc9
  refine Az 4 0 [] [[o0,(Gy 1 b4 o5 c.Aa),o0,(oi i),o0,(oa [.via 0 (.slice y11.Ar.a y11.Ar.xs.length y11.Ar.cap)]),o0,o0]] [Qb z,FO b4 o5 c.Aa,DJ i,i<c.Aa.xs.length,Di,Old w b4 (o5+i*8+7) (.slice y11.Ar.a y11.Ar.xs.length y11.Ar.cap)] [(1,i6 ch),(2,pt z),(6,Ac i),(MX c),(11,Ac i),(RQ y11),(21,i6 0)] rfl ⟨rfl,FP ha6,rfl,(by omega),rfl,Aw (hc9 7 _ rfl),Af⟩ ?_
  refine DY (fun m a w'=>∃ (n13:Nat) (j:Nat),m=y11.Ar.xs.length - j∧n2≤n13∧(j≤y11.Ar.xs.length)∧(Cm i y11 ch true j=[])∧St 52 [(1,i6 ch),(2,pt z),(6,Ac i),(MX c),(11,Ac i),(RQ y11),(21,Ac j)] [] ⟨w,n13,[(Ak w),(U9 z c)]⟩ a w') (y11.Ar.xs.length - 0) ?_ ?_
  ·intro a w' hs;exact⟨n2,0,rfl,Nat.le_refl _,Nat.zero_le _,rfl,hs⟩
  rintro m a w' ⟨n13,j,rfl,hn12,hkj,hpe,hs⟩
  refine(?_:G Tryd.prog 52 [(1,i6 ch),(2,pt z),(6,Ac i),(MX c),(11,Ac i),(RQ y11),(21,Ac j)] [] ⟨w,n13,[(Ak w),(U9 z c)]⟩ _ _ _) a w' hs
  clear hs a w'
  have hlp:=he10.Ar.1.len
  refine DW ?_
  by_cases h14:(j:Int)<(y11.Ar.xs.length:Int)
  ·refine Az 14 0 [1] [[oT],[o0,o0]] [BT ((j:Int)<(y11.Ar.xs.length:Int))] [(1,i6 ch),(2,pt z),(6,Ac i),(MX c),(11,Ac i),(RQ y11),(21,Ac j),(7,Ac j)] rfl ⟨bt,Af⟩ ?_
   obtain⟨b15,o16,ha17,hF19,hc18⟩:=(he10.Ar).1.all (show 0<y11.Ar.xs.length by omega)
   replace ha17:y11.Ar.a=some ⟨b15,o16,none⟩:=ha17
   have hc20:=hc18 j (show j<y11.Ar.xs.length by omega)
   have he21:=(he10.Ar).2 j (show j<y11.Ar.xs.length by omega)
   obtain⟨y22,hy22⟩:∃ y_,y_=gd y11.Ar.xs j:=⟨_,rfl⟩
   rw[←hy22]at he21 hc20
   by_cases h23:(y22.Channel:Int)=ch
   ·refine Az 3 0 [] [[o0,(Gy 1 b4 o5 c.Aa),o0,(oi i),o0,⟨.auto [.via 0 (.slice y11.Ar.a y11.Ar.xs.length y11.Ar.cap)],some (.slice (some ⟨b15,o16,none⟩) y11.Ar.xs.length y11.Ar.cap)⟩,o0,(oi j),o0,(oa [.via 0 (i6 y22.Channel)]),o0,oT,o0,o0,(Gy 1 b4 o5 c.Aa),o0,(oi i),o0,⟨.auto [.via 0 (.slice y11.Ar.a y11.Ar.xs.length y11.Ar.cap)],some (.slice (some ⟨b15,o16,none⟩) y11.Ar.xs.length y11.Ar.cap)⟩,o0,(oi j),o0,(oa [.via 0 (.bool y22.Source)]),o0]] [Qb z,FO b4 o5 c.Aa,DJ i,i<c.Aa.xs.length,Di,Old w b4 (o5+i*8+7) (.slice y11.Ar.a y11.Ar.xs.length y11.Ar.cap),FO b15 o16 y11.Ar,DJ j,j<y11.Ar.xs.length,Di,Old w b15 (o16+j*2) (i6 y22.Channel),ET y22.Channel ch,Qb z,FO b4 o5 c.Aa,DJ i,i<c.Aa.xs.length,Di,Old w b4 (o5+i*8+7) (.slice y11.Ar.a y11.Ar.xs.length y11.Ar.cap),FO b15 o16 y11.Ar,DJ j,j<y11.Ar.xs.length,Di,Old w b15 (o16+j*2+1) (.bool y22.Source)] [(1,i6 ch),(2,pt z),(6,Ac i),(MX c),(11,Ac i),(RQ y11),(21,Ac j),(7,Ac j),(47,.bool y22.Source)] rfl ⟨rfl,FP ha6,rfl,(by omega),rfl,Aw (hc9 7 _ rfl),FP ha17,rfl,(by omega),rfl,Aw (hc20 0 _ rfl),et,rfl,FP ha6,rfl,(by omega),rfl,Aw (hc9 7 _ rfl),FP ha17,rfl,(by omega),rfl,Aw (hc20 1 _ rfl),Af⟩ ?_
    by_cases h24:y22.Source=true
    ·refine Az 6 0 [3] [[o0,o0,o0,o0]] [Value.bool y22.Source=Value.bool true] [(4,Ac i),(5,Ac j)] rfl ⟨(congrArg Value.bool h24),Af⟩ ?_
     refine AO [] [] (.tuple #[(Ac i),Ac j]) Af ?_
     intro w25 hw25
     have hg:=Za9 (i:=i) (j:=j) (by omega) (by rw[←hy11];omega) heu (by rw[←hy11];exact hpe) (by rw[←hy11,←hy22];exact Vq (by omega) (by revert h24;cases y22.Source <;> simp))
     refine⟨?_,Bi hw25⟩
     rw[hg]
    refine Az 6 0 [2] [[(ov (i6 ((j+1:Nat):Int))),o0]] [Value.bool y22.Source=Value.bool false,Wr ((j:Int)+1) (((j+1:Nat):Int))] [(1,i6 ch),(2,pt z),(6,Ac i),(MX c),(11,Ac i),(RQ y11),(21,i6 ((j+1:Nat):Int))] rfl ⟨(congrArg Value.bool (Bool.eq_false_iff.2 h24)),CB,Af⟩ ?_
    refine Cf (fun a w' hs=>⟨y11.Ar.xs.length - (j+1),by omega,n13,(j+1),rfl,by omega,by omega,by rw[JM (by rw[←hy22];exact Ti (by revert h24;cases y22.Source <;> simp))];exact hpe,hs⟩)
   refine Az 9 0 [0] [[o0,(Gy 1 b4 o5 c.Aa),o0,(oi i),o0,⟨.auto [.via 0 (.slice y11.Ar.a y11.Ar.xs.length y11.Ar.cap)],some (.slice (some ⟨b15,o16,none⟩) y11.Ar.xs.length y11.Ar.cap)⟩,o0,(oi j),o0,(oa [.via 0 (i6 y22.Channel)]),o0,oF,o0,o0],[(ov (i6 ((j+1:Nat):Int))),o0]] [Qb z,FO b4 o5 c.Aa,DJ i,i<c.Aa.xs.length,Di,Old w b4 (o5+i*8+7) (.slice y11.Ar.a y11.Ar.xs.length y11.Ar.cap),FO b15 o16 y11.Ar,DJ j,j<y11.Ar.xs.length,Di,Old w b15 (o16+j*2) (i6 y22.Channel),EF y22.Channel ch,Wr ((j:Int)+1) (((j+1:Nat):Int))] [(1,i6 ch),(2,pt z),(6,Ac i),(MX c),(11,Ac i),(RQ y11),(21,i6 ((j+1:Nat):Int))] rfl ⟨rfl,FP ha6,rfl,(by omega),rfl,Aw (hc9 7 _ rfl),FP ha17,rfl,(by omega),rfl,Aw (hc20 0 _ rfl),ef,CB,Af⟩ ?_
   refine Cf (fun a w' hs=>⟨y11.Ar.xs.length - (j+1),by omega,n13,(j+1),rfl,by omega,by omega,by rw[JM (by rw[←hy22];exact UE (by omega))];exact hpe,hs⟩)
  refine Az 13 0 [0] [[oF],[(ov (i6 ((i+1:Nat):Int))),o0]] [BF ((j:Int)<(y11.Ar.xs.length:Int)),Wr ((i:Int)+1) (((i+1:Nat):Int))] [(1,i6 ch),(2,pt z),(MX c),(11,i6 ((i+1:Nat):Int))] rfl ⟨bf,CB,Af⟩ ?_
  refine Cf (fun a w' hs=>⟨c.Aa.xs.length - (i+1),by omega,n13,(i+1),rfl,by omega,by omega,by rw[Kv,heu,←hy11,show y11.Ar.xs.length=j by omega];exact hpe,hs⟩)
 refine Az 15 0 [0] [[oF],[o0,o0]] [BF ((i:Int)<(c.Aa.xs.length:Int))] [(4,i6 0),(5,i6 0)] rfl ⟨bf,Af⟩ ?_
 refine AO [] [] (.tuple #[i6 0,i6 0]) Af ?_
 intro w26 hw26
 have e0:i=c.Aa.xs.length:=by omega
 subst e0
 have hg:=no_end heu
 refine⟨?_,Bi hw26⟩
 rw[hg]
end Go.Proofs.YtjdmhijaanmccaaDoor.Ly
