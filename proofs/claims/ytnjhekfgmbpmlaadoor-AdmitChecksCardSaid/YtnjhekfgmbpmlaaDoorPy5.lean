/- Packed: Db, Dd, De, Ba, Aq, Bb, Lm. No conditions. -/
import Derived.Test.YtnjhekfgmbpmlaaDoorPy4
set_option maxHeartbeats 4000000
namespace Go.Proofs.YtnjhekfgmbpmlaaDoor.Ad
open Go Go.Proofs.YtnjhekfgmbpmlaaDoor.Eng Go.Proofs.YtnjhekfgmbpmlaaDoor.Mem Go.Proofs.YtnjhekfgmbpmlaaDoor.Ly
set_option linter.unusedSimpArgs false
set_option linter.unusedVariables false
set_option maxRecDepth 100000
section
variable {c:Aj}{i:Nat}
structure NU(c:Aj)(i:Nat)(cs ws sp:List (Sl Au)):Prop where
 l1:cs.length=i
 l2:ws.length=min i c.Aq.xs.length
 l3:sp.length=i - c.Aq.xs.length
 c1:∀ q,q<i→q<c.Aq.xs.length→gd cs q=⟨(gd ws q).a,(gd ws q).cap - 0,(gd c.Aq.xs q).xs⟩
 w1:∀ q,q<i→q<c.Aq.xs.length→(gd ws q).xs=wid Dq (gd c.Aq.xs q).xs
 c2:∀ q,c.Aq.xs.length≤q→q<i→gd cs q=gd sp (q - c.Aq.xs.length)
 s1:∀ q,q<sp.length→(gd sp q).xs=[Dq (c.Aq.xs.length+q)]
theorem cor_nil:NU c 0 [] [] []:=⟨rfl,by simp,by simp,fun q h=>absurd h (Nat.not_lt_zero q),fun q h=>absurd h (Nat.not_lt_zero q),fun q _ h=>absurd h (Nat.not_lt_zero q),fun q h=>absurd h (Nat.not_lt_zero q)⟩
theorem Pi{α:Type}[Inhabited α]{xs:List α}{y:α}{n:Nat}(h:xs.length=n):gd (xs++[y]) n=y:=by subst h;exact Za1
theorem cor_in{cs ws sp:List (Sl Au)}(h:NU c i cs ws sp)(hi:i<c.Aq.xs.length){a:Option Addr}{cap:Nat}{xs ys:List Au}(hx:xs=wid Dq (gd c.Aq.xs i).xs)(hy:ys=(gd c.Aq.xs i).xs):NU c (i+1) (cs++[⟨a,cap - 0,ys⟩]) (ws++[⟨a,cap,xs⟩]) sp:=by
 subst hy
 obtain⟨l1,l2,l3,c1,w1,c2,s1⟩:=h
 have l2':ws.length=i:=by omega
 refine⟨by rw[List.length_append,l1];rfl,by rw[List.length_append,l2];simp;omega,by omega,fun q h1 h2 => ?_,fun q h1 h2 => ?_,fun q h1 h2 => ?_,s1⟩
 ·by_cases e:q=i
  ·subst e;rw[Pi l1,Pi l2']
  rw[MK (by omega),MK (by omega)];exact c1 q (by omega) h2
 ·by_cases e:q=i
  ·subst e;rw[Pi l2'];exact hx
  rw[MK (by omega)];exact w1 q (by omega) h2
 exfalso;omega
theorem cor_out{cs ws sp:List (Sl Au)}(h:NU c i cs ws sp)(hi:c.Aq.xs.length≤i){a:Option Addr}{cap:Nat}:NU c (i+1) (cs++[⟨a,cap,[Dq i]⟩]) ws (sp++[⟨a,cap,[Dq i]⟩]):=by
 obtain⟨l1,l2,l3,c1,w1,c2,s1⟩:=h
 refine⟨by rw[List.length_append,l1];rfl,by omega,by rw[List.length_append,l3];simp;omega,fun q h1 h2 => ?_,fun q h1 h2=>w1 q (by omega) h2,fun q h1 h2 => ?_,fun q hq => ?_⟩
 ·rw[MK (by omega)];exact c1 q (by omega) h2
 ·by_cases e:q=i
  ·subst e;rw[Pi l1,Pi l3]
  rw[MK (by omega),MK (by omega)];exact c2 q h1 (by omega)
 by_cases e:q=sp.length
 ·subst e;rw[Pi rfl];show[Dq i]=_;rw[show c.Aq.xs.length+sp.length=i from by omega]
 rw[List.length_append,List.length_singleton]at hq;rw[MK (by omega)];exact s1 q (by omega)
structure Oa(c:Aj)(i:Nat)(ps:List Ap)(rs:List (Sl A8))(qs:List (Sl Bh)):Prop where
 l1:ps.length=i
 l2:rs.length=min i c.Aa.xs.length
 l3:qs.length=min i c.Aa.xs.length
 p1:∀ q,q<i→q<c.Aa.xs.length→gd ps q={ gd c.Aa.xs q with Af:=⟨(gd rs q).a,(gd rs q).cap - 0,(gd c.Aa.xs q).Af.xs⟩,Am:=⟨(gd qs q).a,(gd qs q).cap - 0,(gd c.Aa.xs q).Am.xs⟩ }
 r1:∀ q,q<i→q<c.Aa.xs.length→(gd rs q).xs=wid Ez (gd c.Aa.xs q).Af.xs
 q1:∀ q,q<i→q<c.Aa.xs.length→(gd qs q).xs=wid EG (gd c.Aa.xs q).Am.xs
 p2:∀ q,c.Aa.xs.length≤q→q<i→gd ps q=DV q
theorem prt_nil:Oa c 0 [] [] []:=⟨rfl,by simp,by simp,fun q h=>absurd h (Nat.not_lt_zero q),fun q h=>absurd h (Nat.not_lt_zero q),fun q h=>absurd h (Nat.not_lt_zero q),fun q _ h=>absurd h (Nat.not_lt_zero q)⟩
theorem prt_in{ps:List Ap}{rs:List (Sl A8)}{qs:List (Sl Bh)}(h:Oa c i ps rs qs)(hi:i<c.Aa.xs.length){y:Ap}(hy:y=gd c.Aa.xs i){a a2:Option Addr}{cap cap2:Nat}{xs:List A8}{zs:List Bh}(hx:xs=wid Ez y.Af.xs)(hz:zs=wid EG y.Am.xs):Oa c (i+1) (ps++[⟨y.Name,y.Entry,y.DK,y.AY,y.DI,y.Bi,⟨a,cap - 0,y.Af.xs⟩,⟨a2,cap2 - 0,y.Am.xs⟩⟩]) (rs++[⟨a,cap,xs⟩]) (qs++[⟨a2,cap2,zs⟩]):=by
 subst hy
 obtain⟨l1,l2,l3,p1,r1,q1,p2⟩:=h
 have l2':rs.length=i:=by omega
 have l3':qs.length=i:=by omega
 refine⟨by rw[List.length_append,l1];rfl,by rw[List.length_append,l2];simp;omega,by rw[List.length_append,l3];simp;omega,fun q h1 h2 => ?_,fun q h1 h2 => ?_,fun q h1 h2 => ?_,fun q h1 h2=>by omega⟩
 ·by_cases e:q=i
  ·subst e;rw[Pi l1,Pi l2',Pi l3']
  rw[MK (by omega),MK (by omega),MK (by omega)];exact p1 q (by omega) h2
 ·by_cases e:q=i
  ·subst e;rw[Pi l2'];exact hx
  rw[MK (by omega)];exact r1 q (by omega) h2
 by_cases e:q=i
 ·subst e;rw[Pi l3'];exact hz
 rw[MK (by omega)];exact q1 q (by omega) h2
theorem prt_out{ps:List Ap}{rs:List (Sl A8)}{qs:List (Sl Bh)}(h:Oa c i ps rs qs)(hi:c.Aa.xs.length≤i):Oa c (i+1) (ps++[DV i]) rs qs:=by
 obtain⟨l1,l2,l3,p1,r1,q1,p2⟩:=h
 refine⟨by rw[List.length_append,l1];rfl,by omega,by omega,fun q h1 h2 => ?_,fun q h1 h2=>r1 q (by omega) h2,fun q h1 h2=>q1 q (by omega) h2,fun q h1 h2 => ?_⟩
 ·rw[MK (by omega)];exact p1 q (by omega) h2
 by_cases e:q=i
 ·subst e;rw[Pi l1]
 rw[MK (by omega)];exact p2 q h1 (by omega)
theorem ZbX{α:Type}{f:Nat→α}{z:α}{xs:List α}{n k:Nat}(hn:n=xs.length+24)(hk:k=n):xs++(Eg f z n k).drop xs.length=wid f xs:=by
 subst hk;subst hn;rw[fil_all];rfl
end
structure Oe(c:Aj)(L:Hf)(sp:List (Sl Au)):Prop where
 nums:L.C.Frames=c.Frames∧L.C.CJ=c.CJ∧L.C.Kernel=c.Kernel∧L.C.Room=c.Room
 hx:L.channels.xs=wid DD c.Ag.xs
 Ry:NU c (c.Aq.xs.length+24) L.He.xs L.windows.xs sp
 prt:Oa c (c.Aa.xs.length+24) L.partitions.xs L.regions.xs L.Gp.xs
 hC:L.C.Ag=⟨L.channels.a,L.channels.cap - 0,c.Ag.xs⟩
 cC:L.C.Aq=⟨L.He.a,L.He.cap - 0,L.He.xs.take c.Aq.xs.length⟩
 pC:L.C.Aa=⟨L.partitions.a,L.partitions.cap - 0,L.partitions.xs.take c.Aa.xs.length⟩
def SG(n:Nat)(L:Hf)(sp:List (Sl Au)):List Ch:=[BJ n 55 3 AL.cells L.channels.val L.channels.xs,BJ n 42 1 (fun x:Sl Au=>[Sl.val x]) L.He.val L.He.xs,BJ n 42 1 (fun x:Sl Au=>[Sl.val x]) L.windows.val L.windows.xs,Be n 44 3 Au.cells L.windows.xs,Be n 44 3 Au.cells sp,BJ n 41 8 Ap.cells L.partitions.val L.partitions.xs,BJ n 38 1 (fun x:Sl A8=>[Sl.val x]) L.regions.val L.regions.xs,Be n 49 4 A8.cells L.regions.xs,BJ n 39 1 (fun x:Sl Bh=>[Sl.val x]) L.Gp.val L.Gp.xs,Be n 57 2 Bh.cells L.Gp.xs]
section
variable (z:Nat)(c:Aj)(aC:Option Addr)(cC b11:Nat)(cH h0:Nat)(csG:List (Sl Au))(aW:Option Addr)(wsG:List (Sl Au))(cW:Nat)(ax119:Option Addr)(psG:List Ap)(y76:Ap)(b88 c12:Nat)(b104 c14 cp120:Nat)(ax109:Option Addr)(rsG:List (Sl A8))(k12 cp110:Nat)(ax113:Option Addr)(qsG:List (Sl Bh))(k14 cp114:Nat)(aP:Option Addr)(cP:Nat)(ax126:Option Addr)(p cp127:Nat)(aR:Option Addr)(cR:Nat)(aQ:Option Addr)(cQ:Nat)(ax50:Option Addr)(b40 c8:Nat)(y28:Sl Au)(cp51:Nat)(ax45:Option Addr)(k8 cp46:Nat)(ax60:Option Addr)(n56 i cp61:Nat)(ax7:Option Addr)(cp8:Nat)(aH:Option Addr)(n124 n115:Nat)(n66 n107:Nat)(n111 n5:Nat)(n43 n47:Nat)(a12 a14 a8:Option Addr)(w:World)(spG:List (Sl Au))
abbrev TE:=bk (z+2) #[i6 c.Frames,i6 c.CJ,i6 c.Kernel,i6 c.Room,.slice aC (c.Aq.xs.length - 0) (cC - 0),.slice c.Aa.a c.Aa.xs.length c.Aa.cap,.slice (some ⟨b11,0,none⟩) (c.Ag.xs.length - 0) (cH - 0),.slice (some ⟨b11,0,none⟩) (((List.range h0).map DD).length) cH,.slice aC csG.length cC,.slice aW wsG.length cW,.slice ax119 ((psG++[(⟨y76.Name,y76.Entry,y76.DK,y76.AY,y76.DI,y76.Bi,(⟨some ⟨b88,0,none⟩,c12 - 0,y76.Af.xs⟩:Sl A8),(⟨some ⟨b104,0,none⟩,c14 - 0,y76.Am.xs⟩:Sl Bh)⟩:Ap)]).length) cp120,.slice ax109 ((rsG++[(⟨some ⟨b88,0,none⟩,c12,(y76.Af.xs++(Eg Ez ⟨0,0,0,0⟩ (y76.Af.xs.length+24) k12).drop y76.Af.xs.length)⟩:Sl A8)]).length) cp110,.slice ax113 ((qsG++[(⟨some ⟨b104,0,none⟩,c14,(y76.Am.xs++(Eg EG ⟨0,false⟩ (y76.Am.xs.length+24) k14).drop y76.Am.xs.length)⟩:Sl Bh)]).length) cp114] 30
abbrev Xz:=bk (z+2) #[i6 c.Frames,i6 c.CJ,i6 c.Kernel,i6 c.Room,.slice aC (c.Aq.xs.length - 0) (cC - 0),.slice c.Aa.a c.Aa.xs.length c.Aa.cap,.slice (some ⟨b11,0,none⟩) (c.Ag.xs.length - 0) (cH - 0),.slice (some ⟨b11,0,none⟩) (((List.range h0).map DD).length) cH,.slice aC csG.length cC,.slice aW wsG.length cW,.slice aP psG.length cP,.slice ax109 ((rsG++[(⟨some ⟨b88,0,none⟩,c12,(y76.Af.xs++(Eg Ez ⟨0,0,0,0⟩ (y76.Af.xs.length+24) k12).drop y76.Af.xs.length)⟩:Sl A8)]).length) cp110,.slice ax113 ((qsG++[(⟨some ⟨b104,0,none⟩,c14,(y76.Am.xs++(Eg EG ⟨0,false⟩ (y76.Am.xs.length+24) k14).drop y76.Am.xs.length)⟩:Sl Bh)]).length) cp114] 30
abbrev ZbN:Ch:= .blk (z+2) (.cells #[i6 c.Frames,i6 c.CJ,i6 c.Kernel,i6 c.Room,.slice aC (c.Aq.xs.length - 0) (cC - 0),.slice c.Aa.a c.Aa.xs.length c.Aa.cap,.slice (some ⟨b11,0,none⟩) (c.Ag.xs.length - 0) (cH - 0),.slice (some ⟨b11,0,none⟩) (((List.range h0).map DD).length) cH,.slice aC csG.length cC,.slice aW wsG.length cW,.slice ax126 ((psG++[(⟨(DV p).Name,(DV p).Entry,(DV p).DK,(DV p).AY,(DV p).DI,(DV p).Bi,(⟨(DV p).Af.a,(DV p).Af.cap,[]⟩:Sl A8),(⟨(DV p).Am.a,(DV p).Am.cap,[]⟩:Sl Bh)⟩:Ap)]).length) cp127,.slice aR rsG.length cR,.slice aQ qsG.length cQ] 30 (0,0)) true
abbrev VV:=bk (z+2) #[i6 c.Frames,i6 c.CJ,i6 c.Kernel,i6 c.Room,.slice c.Aq.a c.Aq.xs.length c.Aq.cap,.slice c.Aa.a c.Aa.xs.length c.Aa.cap,.slice (some ⟨b11,0,none⟩) (c.Ag.xs.length - 0) (cH - 0),.slice (some ⟨b11,0,none⟩) (((List.range h0).map DD).length) cH,.slice ax50 ((csG++[(⟨some ⟨b40,0,none⟩,c8 - 0,y28.xs⟩:Sl Au)]).length) cp51,.slice ax45 ((wsG++[(⟨some ⟨b40,0,none⟩,c8,(y28.xs++(Eg Dq ⟨0,0,0⟩ (y28.xs.length+24) k8).drop y28.xs.length)⟩:Sl Au)]).length) cp46,.slice none 0 0,.slice none 0 0,.slice none 0 0] 30
abbrev ZY:=bk (z+2) #[i6 c.Frames,i6 c.CJ,i6 c.Kernel,i6 c.Room,.slice c.Aq.a c.Aq.xs.length c.Aq.cap,.slice c.Aa.a c.Aa.xs.length c.Aa.cap,.slice (some ⟨b11,0,none⟩) (c.Ag.xs.length - 0) (cH - 0),.slice (some ⟨b11,0,none⟩) (((List.range h0).map DD).length) cH,.slice aC csG.length cC,.slice ax45 ((wsG++[(⟨some ⟨b40,0,none⟩,c8,(y28.xs++(Eg Dq ⟨0,0,0⟩ (y28.xs.length+24) k8).drop y28.xs.length)⟩:Sl Au)]).length) cp46,.slice none 0 0,.slice none 0 0,.slice none 0 0] 30
abbrev X5:Ch:= .blk (z+2) (.cells #[i6 c.Frames,i6 c.CJ,i6 c.Kernel,i6 c.Room,.slice c.Aq.a c.Aq.xs.length c.Aq.cap,.slice c.Aa.a c.Aa.xs.length c.Aa.cap,.slice (some ⟨b11,0,none⟩) (c.Ag.xs.length - 0) (cH - 0),.slice (some ⟨b11,0,none⟩) (((List.range h0).map DD).length) cH,.slice ax60 ((csG++[(⟨some ⟨n56,0,none⟩,1,[Dq i]⟩:Sl Au)]).length) cp61,.slice aW wsG.length cW,.slice none 0 0,.slice none 0 0,.slice none 0 0] 30 (0,0)) true
abbrev Zag:=bk (z+2) #[i6 c.Frames,i6 c.CJ,i6 c.Kernel,i6 c.Room,.slice c.Aq.a c.Aq.xs.length c.Aq.cap,.slice c.Aa.a c.Aa.xs.length c.Aa.cap,.slice c.Ag.a c.Ag.xs.length c.Ag.cap,.slice ax7 ((((List.range h0).map DD)++[(⟨(DD h0).Kind,(DD h0).Words,(DD h0).Dn⟩:AL)]).length) cp8,.slice none 0 0,.slice none 0 0,.slice none 0 0,.slice none 0 0,.slice none 0 0] 30
abbrev LW:=bk (z+2) #[i6 c.Frames,i6 c.CJ,i6 c.Kernel,i6 c.Room,.slice aC (c.Aq.xs.length - 0) (cC - 0),.slice c.Aa.a c.Aa.xs.length c.Aa.cap,.slice (some ⟨b11,0,none⟩) (c.Ag.xs.length - 0) (cH - 0),.slice (some ⟨b11,0,none⟩) (((List.range h0).map DD).length) cH,.slice aC csG.length cC,.slice aW wsG.length cW,.slice aP psG.length cP,.slice aR rsG.length cR,.slice aQ qsG.length cQ] 30
abbrev LV:=bk (z+2) #[i6 c.Frames,i6 c.CJ,i6 c.Kernel,i6 c.Room,.slice c.Aq.a c.Aq.xs.length c.Aq.cap,.slice c.Aa.a c.Aa.xs.length c.Aa.cap,.slice (some ⟨b11,0,none⟩) (c.Ag.xs.length - 0) (cH - 0),.slice (some ⟨b11,0,none⟩) (((List.range h0).map DD).length) cH,.slice aC csG.length cC,.slice aW wsG.length cW,.slice none 0 0,.slice none 0 0,.slice none 0 0] 30
abbrev Nz:=bk (z+2) #[i6 c.Frames,i6 c.CJ,i6 c.Kernel,i6 c.Room,.slice c.Aq.a c.Aq.xs.length c.Aq.cap,.slice c.Aa.a c.Aa.xs.length c.Aa.cap,.slice c.Ag.a c.Ag.xs.length c.Ag.cap,.slice aH (((List.range h0).map DD).length) cH,.slice none 0 0,.slice none 0 0,.slice none 0 0,.slice none 0 0,.slice none 0 0] 30
abbrev ZaO:=bk n124 #[.string ((DV p).Name),i6 ((DV p).Entry),i6 ((DV p).DK),i6 ((DV p).AY),i6 ((DV p).DI),i6 ((DV p).Bi),.slice ((DV p).Af.a) ((DV p).Af.xs.length) ((DV p).Af.cap),.slice ((DV p).Am.a) ((DV p).Am.xs.length) ((DV p).Am.cap)] 41
abbrev Rx:=bk n115 #[.string y76.Name,i6 y76.Entry,i6 y76.DK,i6 y76.AY,i6 y76.DI,i6 y76.Bi,.slice (some ⟨b88,0,none⟩) (y76.Af.xs.length - 0) (c12 - 0),.slice (some ⟨b104,0,none⟩) (y76.Am.xs.length - 0) (c14 - 0)] 41
abbrev QM:=bk n66 #[.string y76.Name,i6 y76.Entry,i6 y76.DK,i6 y76.AY,i6 y76.DI,i6 y76.Bi,.slice (some ⟨b88,0,none⟩) (y76.Af.xs.length - 0) (c12 - 0),.slice (some ⟨b104,0,none⟩) (y76.Am.xs.length - 0) (c14 - 0)] 41
abbrev DX:=bk (z+1) #[i6 0,i6 0,i6 0,i6 0,.slice none 0 0,.slice none 0 0,.slice none 0 0,.slice none 0 0,.slice none 0 0,.slice none 0 0,.slice none 0 0,.slice none 0 0,.slice none 0 0] 30
abbrev NH:=bk n107 #[.slice (some ⟨b88,0,none⟩) ((Eg Ez ⟨0,0,0,0⟩ (y76.Af.xs.length+24) k12).length) c12] 38
abbrev OH:=bk n111 #[.slice (some ⟨b104,0,none⟩) ((Eg EG ⟨0,false⟩ (y76.Am.xs.length+24) k14).length) c14] 39
abbrev YJ:=bk n56 #[i6 ((Dq i).Partition),i6 ((Dq i).Ba),i6 ((Dq i).AQ)] 44
abbrev Yl:=bk n5 #[i6 ((DD h0).Kind),i6 ((DD h0).Words),i6 ((DD h0).Dn)] 55
abbrev Qq:=bk n43 #[.slice (some ⟨b40,0,none⟩) ((Eg Dq ⟨0,0,0⟩ (y28.xs.length+24) k8).length) c8] 42
abbrev Uf:=bk n47 #[.slice (some ⟨b40,0,none⟩) (y28.xs.length - 0) (c8 - 0)] 42
abbrev Wy:=bk (n56+1) #[.slice (some ⟨n56,0,none⟩) 1 1] 42
abbrev Me:=bk n66 (Ap.arr y76) 41
abbrev DT:=bk z (Aj.arr c) 26
abbrev ZaA:=BJ z 41 8 Ap.cells (.slice ax126 ((psG++[(⟨(DV p).Name,(DV p).Entry,(DV p).DK,(DV p).AY,(DV p).DI,(DV p).Bi,(⟨(DV p).Af.a,(DV p).Af.cap,[]⟩:Sl A8),(⟨(DV p).Am.a,(DV p).Am.cap,[]⟩:Sl Bh)⟩:Ap)]).length) cp127) (psG++[(⟨(DV p).Name,(DV p).Entry,(DV p).DK,(DV p).AY,(DV p).DI,(DV p).Bi,(⟨(DV p).Af.a,(DV p).Af.cap,[]⟩:Sl A8),(⟨(DV p).Am.a,(DV p).Am.cap,[]⟩:Sl Bh)⟩:Ap)])
abbrev QK:=BJ z 41 8 Ap.cells (.slice ax119 ((psG++[(⟨y76.Name,y76.Entry,y76.DK,y76.AY,y76.DI,y76.Bi,(⟨some ⟨b88,0,none⟩,c12 - 0,y76.Af.xs⟩:Sl A8),(⟨some ⟨b104,0,none⟩,c14 - 0,y76.Am.xs⟩:Sl Bh)⟩:Ap)]).length) cp120) (psG++[(⟨y76.Name,y76.Entry,y76.DK,y76.AY,y76.DI,y76.Bi,(⟨some ⟨b88,0,none⟩,c12 - 0,y76.Af.xs⟩:Sl A8),(⟨some ⟨b104,0,none⟩,c14 - 0,y76.Am.xs⟩:Sl Bh)⟩:Ap)])
abbrev NJ:=BJ z 38 1 (fun x:Sl A8=>[Sl.val x]) (.slice ax109 ((rsG++[(⟨some ⟨b88,0,none⟩,c12,(y76.Af.xs++(Eg Ez ⟨0,0,0,0⟩ (y76.Af.xs.length+24) k12).drop y76.Af.xs.length)⟩:Sl A8)]).length) cp110) (rsG++[(⟨some ⟨b88,0,none⟩,c12,(y76.Af.xs++(Eg Ez ⟨0,0,0,0⟩ (y76.Af.xs.length+24) k12).drop y76.Af.xs.length)⟩:Sl A8)])
abbrev OE:=BJ z 39 1 (fun x:Sl Bh=>[Sl.val x]) (.slice ax113 ((qsG++[(⟨some ⟨b104,0,none⟩,c14,(y76.Am.xs++(Eg EG ⟨0,false⟩ (y76.Am.xs.length+24) k14).drop y76.Am.xs.length)⟩:Sl Bh)]).length) cp114) (qsG++[(⟨some ⟨b104,0,none⟩,c14,(y76.Am.xs++(Eg EG ⟨0,false⟩ (y76.Am.xs.length+24) k14).drop y76.Am.xs.length)⟩:Sl Bh)])
abbrev QW:=BJ z 42 1 (fun x:Sl Au=>[Sl.val x]) (.slice ax45 ((wsG++[(⟨some ⟨b40,0,none⟩,c8,(y28.xs++(Eg Dq ⟨0,0,0⟩ (y28.xs.length+24) k8).drop y28.xs.length)⟩:Sl Au)]).length) cp46) (wsG++[(⟨some ⟨b40,0,none⟩,c8,(y28.xs++(Eg Dq ⟨0,0,0⟩ (y28.xs.length+24) k8).drop y28.xs.length)⟩:Sl Au)])
abbrev XU:=BJ z 55 3 AL.cells (.slice ax7 ((((List.range h0).map DD)++[(⟨(DD h0).Kind,(DD h0).Words,(DD h0).Dn⟩:AL)]).length) cp8) (((List.range h0).map DD)++[(⟨(DD h0).Kind,(DD h0).Words,(DD h0).Dn⟩:AL)])
abbrev NI:=BJ z 49 4 A8.cells (.slice (some ⟨b88,0,none⟩) ((Eg Ez ⟨0,0,0,0⟩ (y76.Af.xs.length+24) k12).length) c12) (y76.Af.xs++(Eg Ez ⟨0,0,0,0⟩ (y76.Af.xs.length+24) k12).drop y76.Af.xs.length)
abbrev P7:=BJ z 57 2 Bh.cells (.slice (some ⟨b104,0,none⟩) ((Eg EG ⟨0,false⟩ (y76.Am.xs.length+24) k14).length) c14) (y76.Am.xs++(Eg EG ⟨0,false⟩ (y76.Am.xs.length+24) k14).drop y76.Am.xs.length)
abbrev Ur:=BJ z 42 1 (fun x:Sl Au=>[Sl.val x]) (.slice ax50 ((csG++[(⟨some ⟨b40,0,none⟩,c8 - 0,y28.xs⟩:Sl Au)]).length) cp51) (csG++[(⟨some ⟨b40,0,none⟩,c8 - 0,y28.xs⟩:Sl Au)])
abbrev V5:=BJ z 42 1 (fun x:Sl Au=>[Sl.val x]) (.slice ax60 ((csG++[(⟨some ⟨n56,0,none⟩,1,[Dq i]⟩:Sl Au)]).length) cp61) (csG++[(⟨some ⟨n56,0,none⟩,1,[Dq i]⟩:Sl Au)])
abbrev Tj:=BJ z 44 3 Au.cells (.slice (some ⟨b40,0,none⟩) ((Eg Dq ⟨0,0,0⟩ (y28.xs.length+24) k8).length) c8) (y28.xs++(Eg Dq ⟨0,0,0⟩ (y28.xs.length+24) k8).drop y28.xs.length)
abbrev Yc:=Be z 49 4 A8.cells (rsG++[⟨(some ⟨b88,0,none⟩),c12,(y76.Af.xs++(Eg Ez ⟨0,0,0,0⟩ (y76.Af.xs.length+24) k12).drop y76.Af.xs.length)⟩])
abbrev En:=BJ z 55 3 AL.cells (.slice (some ⟨b11,0,none⟩) (((List.range h0).map DD).length) cH) (c.Ag.xs++((List.range h0).map DD).drop c.Ag.xs.length)
abbrev QN:=BJ z 49 4 A8.cells (.slice a12 ((Eg Ez ⟨0,0,0,0⟩ (y76.Af.xs.length+24) k12).length) c12) (Eg Ez ⟨0,0,0,0⟩ (y76.Af.xs.length+24) k12)
abbrev LY:=BJ z 55 3 AL.cells (.slice aH (((List.range h0).map DD).length) cH) ((List.range h0).map DD)
abbrev EZ:=BJ z 42 1 (fun x:Sl Au=>[Sl.val x]) (.slice aC csG.length cC) csG
abbrev EN:=BJ z 42 1 (fun x:Sl Au=>[Sl.val x]) (.slice aW wsG.length cW) wsG
abbrev Jp:=BJ z 38 1 (fun x:Sl A8=>[Sl.val x]) (.slice aR rsG.length cR) rsG
abbrev IZ:=BJ z 39 1 (fun x:Sl Bh=>[Sl.val x]) (.slice aQ qsG.length cQ) qsG
abbrev Ji:=BJ z 41 8 Ap.cells (.slice aP psG.length cP) psG
abbrev Zdq:DJ:=(132,.slice ax126 ((psG++[(⟨(DV p).Name,(DV p).Entry,(DV p).DK,(DV p).AY,(DV p).DI,(DV p).Bi,(⟨(DV p).Af.a,(DV p).Af.cap,[]⟩:Sl A8),(⟨(DV p).Am.a,(DV p).Am.cap,[]⟩:Sl Bh)⟩:Ap)]).length) cp127)
abbrev Za5:DJ:=(30,.slice ax7 ((((List.range h0).map DD)++[(⟨(DD h0).Kind,(DD h0).Words,(DD h0).Dn⟩:AL)]).length) cp8)
abbrev KZ:DJ:=(11,.slice (some ⟨b88,0,none⟩) ((Eg Ez ⟨0,0,0,0⟩ (y76.Af.xs.length+24) k12).length) c12)
abbrev Uj:DJ:=(13,.slice (some ⟨b104,0,none⟩) ((Eg EG ⟨0,false⟩ (y76.Am.xs.length+24) k14).length) c14)
abbrev O4:DJ:=(11,.slice a12 ((Eg Ez ⟨0,0,0,0⟩ (y76.Af.xs.length+24) k12).length) c12)
abbrev Ql:DJ:=(13,.slice a14 ((Eg EG ⟨0,false⟩ (y76.Am.xs.length+24) k14).length) c14)
abbrev Rf:DJ:=(7,.slice a8 ((Eg Dq ⟨0,0,0⟩ (y28.xs.length+24) k8).length) c8)
abbrev LZ:=(6,Ac y28.xs.length)
abbrev C9:=(2,pt (z+1))
abbrev CB:=(3,pt (z+2))
abbrev Hr:=(10,pt n66)
abbrev MX:=[(Ak w),(DT z c),(DX z),(LV z c aC cC b11 cH h0 csG aW wsG cW),(En z c b11 cH h0),(Be z 44 3 Au.cells wsG),(Be z 44 3 Au.cells spG),(EZ z aC cC csG),(EN z aW wsG cW)]
end
theorem lend_calls(w:World)(c:Aj)(hc:Aj.ok Any w c)(hLim:TD c):Calls Tryd.prog 7 #[.agg (Aj.arr c)] w fun e w'=>∃ (L:Hf) (sp:List (Sl Au)),e = .returned (.agg (Hf.arr L))∧Oe c L sp∧(∃ w0,Sat ⟨w0,w'.heap.size,SG w.heap.size L sp⟩ w')∧CP (fun _=>False) w w':=by
 obtain⟨z,hz⟩:∃ z,z=w.heap.size:=⟨_,rfl⟩
 refine CE (args:=[.agg (Aj.arr c)]) 218 ⟨w,z,[(Ak w)]⟩ Tryd.func7 rfl (by kernel_rfl) (by kernel_rfl) (Ep hz) ?_
 have hpl:=hc.Aa.1.len;have hpc:=hc.Aq.1.len;have hpch:=hc.Ag.1.len;have hll1:=hLim.cl;have hll2:=hLim.pl;have hll3:=hLim.hl
 refine DC [0] [(0,.agg (Aj.arr c))] ?_
 refine q_c 14 0 [] [[o0,o0],[(an 7 1),o0,o0,(an 13 3)],[o0]] [Qb z,Qb z,Qb z,Qb z,Qb z,Qb z,Qb z,Qb (z+2),Qb (z+2),Qb (z+2),Qb (z+2),Qb (z+2),Qb (z+2),Qb (z+2),Qb (z+2),Qb (z+2),Qb (z+2),Qb (z+2),Qb (z+2),Qb (z+2)] [(1,pt z),(C9 z),(CB z),(4,i6 0)] ⟨w,z+3,[(Ak w),(DT z c),(DX z),(bk (z+2) #[i6 c.Frames,i6 c.CJ,i6 c.Kernel,i6 c.Room,.slice c.Aq.a c.Aq.xs.length c.Aq.cap,.slice c.Aa.a c.Aa.xs.length c.Aa.cap,.slice c.Ag.a c.Ag.xs.length c.Ag.cap,.slice none 0 0,.slice none 0 0,.slice none 0 0,.slice none 0 0,.slice none 0 0,.slice none 0 0] 30)]⟩ rfl ⟨rfl,rfl,rfl,rfl,rfl,rfl,rfl,rfl,rfl,rfl,rfl,rfl,rfl,rfl,rfl,rfl,rfl,rfl,rfl,rfl,Ae⟩ ?_
 refine OZ z 55 3 AL.cells ?_
 refine Di (fun m a w'=>∃ (n2:Nat) (h0:Nat) (aH:Option Addr) (cH:Nat),m=(c.Ag.xs.length+24) - h0∧z+3≤n2∧(h0≤(c.Ag.xs.length+24))∧St 218 [(1,pt z),(C9 z),(CB z),(4,Ac h0)] [] ⟨w,n2,[(Ak w),(DT z c),(DX z),(Nz z c cH h0 aH),(LY z cH h0 aH)]⟩ a w') ((c.Ag.xs.length+24) - 0) ?_ ?_
 ·intro a w' hs;exact⟨(z+3),0,none,0,rfl,Nat.le_refl _,Nat.zero_le _,hs⟩
 rintro m a w' ⟨n2,h0,aH,cH,rfl,hn1,hkh0,hs⟩
 refine(?_:G Tryd.prog 218 [(1,pt z),(C9 z),(CB z),(4,Ac h0)] [] ⟨w,n2,[(Ak w),(DT z c),(DX z),(Nz z c cH h0 aH),(LY z cH h0 aH)]⟩ _ _ _) a w' hs
 clear hs a w'
 have hmi:((List.range h0).map DD).length=h0:=by simp
 refine Ce <| Ce ?_
 by_cases h3:(h0:Int)<((c.Ag.xs.length+24:Nat):Int)
 ·refine Az 8 0 [1] [[o0,o0,(a1 1),o0,(ov (i6 ((c.Ag.xs.length+24:Nat):Int))),oT]] [Qb z,Wr ((c.Ag.xs.length:Int)+24) (((c.Ag.xs.length+24:Nat):Int)),BT ((h0:Int)<((c.Ag.xs.length+24:Nat):Int))] [(1,pt z),(C9 z),(CB z),(4,Ac h0),(22,.bool true)] rfl ⟨rfl,BQ,bt,Ae⟩ ?_
  refine Eh 7 [0,1,2,3] [(Ak w),(DT z c),(DX z),(Nz z c cH h0 aH)] rfl rfl ?_
  refine JB [.tk 0 o0,.tk 1 (a1 3),.tk 2 o0,.cl 3 (.agg (AL.arr (DD h0)))] [1,2,3,4,26,28] [(15,#[(Ac h0)],.agg (AL.arr (DD h0)))] (DF 4 4) [Qb (z+2)] [(1,pt z),(C9 z),(CB z),(4,Ac h0),(26,.slice aH (((List.range h0).map DD).length) cH),(28,.agg (AL.arr (DD h0)))] [0,1,2,3] ⟨rfl,Ae⟩ ⟨fun w4 hw4=>YT w4 h0 (by omega),Ae⟩ (fun n5 hn6 => ?_)
  replace hn6:n2≤n5:=hn6
  refine BC 4 ?_
  refine BH o0 [1,2,3,4,26,29] [] [(1,pt z),(C9 z),(CB z),(4,Ac h0),(26,.slice aH (((List.range h0).map DD).length) cH),(29,.slice (some ⟨n5,0,none⟩) 1 1)] ⟨w,n5+1,[(Ak w),(DT z c),(DX z),(Nz z c cH h0 aH),(LY z cH h0 aH),(Yl h0 n5)]⟩ [0,1,2,3] Ae (.inr rfl) ?_
  refine BC 5 ?_
  refine WN z 4 5 ((List.range h0).map DD) [(⟨(DD h0).Kind,(DD h0).Words,(DD h0).Dn⟩:AL)] AL.cells 55 3 24 (.slice aH (((List.range h0).map DD).length) cH) n5 1 1 #[i6 ((DD h0).Kind),i6 ((DD h0).Words),i6 ((DD h0).Dn)] 55 (0,0) true (some 30) [0,1,2,3] (by(try simp only[List.length_cons,List.length_nil,List.length_map,List.length_range]);omega) (by(try simp only[List.length_cons,List.length_nil,List.length_map,List.length_range]);omega) (show z≤n5+1 by omega) (.inr ⟨rfl,rfl⟩) (fun ax7 cp8 n9 (hn10:n5+1≤n9) => ?_)
  refine DU [1,2,3,4,30] [(1,pt z),(C9 z),(CB z),(4,Ac h0),(Za5 h0 ax7 cp8)] ?_
  refine Dj [(6,o0)] [1,2,3,4,30,31] [] (DF 7 1) [(1,pt z),(C9 z),(CB z),(4,Ac h0),(Za5 h0 ax7 cp8),(31,.pointer (some ⟨z+2,7,none⟩))] Ae ?_
  refine BC 7 ?_
  refine BH (a1 3) [1,2,3,4] [Qb (z+2)] [(1,pt z),(C9 z),(CB z),(4,Ac h0)] ⟨w,n9,[(Ak w),(DT z c),(DX z),(Zag z c h0 ax7 cp8),(XU z h0 ax7 cp8),(Yl h0 n5)]⟩ [] ⟨rfl,Ae⟩ (.inl rfl) ?_
  refine Es 8 [0,1,2,3,4,5] [(Ak w),(DT z c),(DX z),(Zag z c h0 ax7 cp8),(XU z h0 ax7 cp8),(Yl h0 n5)] rfl rfl ?_
  refine CU ?_
  refine Jw 4 0 [] [[o0,(ov (i6 ((h0+1:Nat):Int))),o0]] [Wr ((h0:Int)+1) (((h0+1:Nat):Int))] [(1,pt z),(C9 z),(CB z),(4,i6 ((h0+1:Nat):Int))] rfl ⟨BQ,Ae⟩ ?_
  refine Cb [0,1,2,3,4] [(Ak w),(DT z c),(DX z),(Zag z c h0 ax7 cp8),(XU z h0 ax7 cp8)] rfl rfl ?_
  refine BK [1,2,3,4] [(1,pt z),(C9 z),(CB z),(4,i6 ((h0+1:Nat):Int))] ?_
  refine BD (fun a w' hs=>⟨(c.Ag.xs.length+24) - (h0+1),by omega,n9,(h0+1),ax7,cp8,rfl,by omega,by omega,(by(try dsimp only[Zag,Nz,DX,Yl,DT,XU,LY,Za5,C9,CB]at hs ⊢);rw[map_snoc];exact hs)⟩)
 refine Az 11 4 [0] [[o0,o0,(a1 1),o0,(ov (i6 ((c.Ag.xs.length+24:Nat):Int))),oF],[o0,(a1 3),o0,(a1 1)]] [Qb z,Wr ((c.Ag.xs.length:Int)+24) (((c.Ag.xs.length+24:Nat):Int)),BF ((h0:Int)<((c.Ag.xs.length+24:Nat):Int)),Qb (z+2),Qb z] [(1,pt z),(C9 z),(CB z),(33,.slice aH (((List.range h0).map DD).length) cH),(35,.slice c.Ag.a c.Ag.xs.length c.Ag.cap)] rfl ⟨rfl,BQ,bf,rfl,rfl,Ae⟩ ?_
 refine SI (base:=z) (e:=55) (sz:=3) (cells:=AL.cells) (a:=aH) (n:=(((List.range h0).map DD).length)) (cap:=cH) (xs:=((List.range h0).map DD)) 4 (by first | omega | (simp only[Gg,List.length_map,List.length_range];omega)) (fun b11 hg12 hb13 => ?_)
 subst hg12
 refine Yp z 4 0 ((List.range h0).map DD) c.Ag.xs c.Ag.a AL.cells 55 3 b11 (((List.range h0).map DD).length) cH c.Ag.xs.length c.Ag.cap (Ak w) (some 36) rfl (by simp only[Gg,List.length_map,List.length_range];omega) (fun w' hw=>QO (fun b k v _ hv=>A7 hv w' hw) (fun _ h=>h) (hc.Ag).1) (fun n14 (hn15:n2≤n14) => ?_)
 refine Dc [1,2,3] [(1,pt z),(C9 z),(CB z)] ?_
 refine TU (by kernel_rfl) ?_
 refine IM <| Ce <| SN (base:=z) (e:=55) (sz:=3) (cells:=AL.cells) (a:=(some ⟨b11,0,none⟩)) (n:=(((List.range h0).map DD).length)) (cap:=cH) (xs:=(c.Ag.xs++((List.range h0).map DD).drop c.Ag.xs.length)) 4 (by first | rfl | (simp only[Gg,List.length_append,List.length_drop,List.length_map,List.length_range];omega)) (fun hcap16 => ?_)
 (try simp only[Gg,List.length_map,List.length_range]at hcap16)
 refine q_c 9 0 [] [[o0,(a1 3),o0,(a1 1),o0,⟨.slc 0 c.Ag.xs.length false,none⟩,o0,o0,(a1 3)],[o0]] [Qb (z+2),Qb z,(0:Int)=((0:Nat):Int),(c.Ag.xs.length:Int)=(c.Ag.xs.length:Int),0≤c.Ag.xs.length,c.Ag.xs.length≤cH,cH=0∨(0:Nat)=0,Qb (z+2)] [(1,pt z),(C9 z),(CB z),(5,i6 0)] ⟨w,n14,[(Ak w),(DT z c),(DX z),(bk (z+2) #[i6 c.Frames,i6 c.CJ,i6 c.Kernel,i6 c.Room,.slice c.Aq.a c.Aq.xs.length c.Aq.cap,.slice c.Aa.a c.Aa.xs.length c.Aa.cap,.slice (some ⟨b11,0,none⟩) (c.Ag.xs.length - 0) (cH - 0),.slice (some ⟨b11,0,none⟩) (((List.range h0).map DD).length) cH,.slice none 0 0,.slice none 0 0,.slice none 0 0,.slice none 0 0,.slice none 0 0] 30),(En z c b11 cH h0)]⟩ rfl ⟨rfl,rfl,rfl,rfl,(by omega),(by omega),.inr rfl,rfl,Ae⟩ ?_
 refine RH z 44 3 Au.cells ?_
 refine RH z 44 3 Au.cells ?_
 refine OZ z 42 1 (fun x:Sl Au=>[Sl.val x]) ?_
 refine OZ z 42 1 (fun x:Sl Au=>[Sl.val x]) ?_
 refine Di (fun m a w'=>∃ (n18:Nat) (i:Nat) (csG:List (Sl Au)) (wsG:List (Sl Au)) (spG:List (Sl Au)) (aC:Option Addr) (cC:Nat) (aW:Option Addr) (cW:Nat),m=(c.Aq.xs.length+24) - i∧n14≤n18∧(i≤(c.Aq.xs.length+24))∧(NU c i csG wsG spG)∧St 218 [(1,pt z),(C9 z),(CB z),(5,Ac i)] [] ⟨w,n18,(MX z c aC cC b11 cH h0 csG aW wsG cW w spG)⟩ a w') ((c.Aq.xs.length+24) - 0) ?_ ?_
 ·intro a w' hs;exact⟨n14,0,([]),([]),([]),none,0,none,0,rfl,Nat.le_refl _,Nat.zero_le _,cor_nil,hs⟩
 rintro m a w' ⟨n18,i,csG,wsG,spG,aC,cC,aW,cW,rfl,hn17,hki,hCo,hs⟩
 refine(?_:G Tryd.prog 218 [(1,pt z),(C9 z),(CB z),(5,Ac i)] [] ⟨w,n18,(MX z c aC cC b11 cH h0 csG aW wsG cW w spG)⟩ _ _ _) a w' hs
 clear hs a w'
 have hl1:=hCo.l1;have hl2:=hCo.l2;have hl3:=hCo.l3
 refine Ce <| Ce ?_
 by_cases h19:(i:Int)<((c.Aq.xs.length+24:Nat):Int)
 ·refine Az 10 0 [1] [[o0,o0,(a1 1),o0,(ov (i6 ((c.Aq.xs.length+24:Nat):Int))),oT]] [Qb z,Wr ((c.Aq.xs.length:Int)+24) (((c.Aq.xs.length+24:Nat):Int)),BT ((i:Int)<((c.Aq.xs.length+24:Nat):Int))] [(1,pt z),(C9 z),(CB z),(5,Ac i),(50,.bool true)] rfl ⟨rfl,BQ,bt,Ae⟩ ?_
  by_cases h20:(i:Int)<(c.Aq.xs.length:Int)
  ·refine Az 7 0 [0] [[o0,o0,(a1 1),o0,oF]] [Qb z,BF ((i:Int)≥(c.Aq.xs.length:Int))] [(1,pt z),(C9 z),(CB z),(5,Ac i),(57,.bool false)] rfl ⟨rfl,bf,Ae⟩ ?_
   obtain⟨b21,o22,ha23,hF25,hc24⟩:=(hc.Aq).1.all (show 0<c.Aq.xs.length by omega)
   replace ha23:c.Aq.a=some ⟨b21,o22,none⟩:=ha23
   have hc26:=hc24 i (show i<c.Aq.xs.length by omega)
   have he27:=(hc.Aq).2 i (show i<c.Aq.xs.length by omega)
   obtain⟨y28,hy28⟩:∃ y_,y_=gd c.Aq.xs i:=⟨_,rfl⟩
   rw[←hy28]at he27 hc26
   have hlw:=hLim.ws i (by omega);rw[←hy28]at hlw;have hyl:=he27.1.len
   refine Az 5 2 [] [[o0,(DN 1 b21 o22 c.Aq),o0,(oi i),(oa [.via 0 (.slice y28.a y28.xs.length y28.cap)]),o0,o0],[o0,(ov (i6 ((y28.xs.length+24:Nat):Int)))]] [Qb z,Dh b21 o22 c.Aq,Ci i,i<c.Aq.xs.length,BN,Old w b21 (o22+i) (.slice y28.a y28.xs.length y28.cap),Wr ((y28.xs.length:Int)+24) (((y28.xs.length+24:Nat):Int))] [(1,pt z),(C9 z),(CB z),(5,Ac i),(LZ y28),(72,i6 ((y28.xs.length+24:Nat):Int))] rfl ⟨rfl,Df ha23,rfl,(by omega),rfl,A7 (hc26 0 _ rfl),BQ,Ae⟩ ?_
   refine VJ z (y28.xs.length+24) (⟨0,0,0⟩:Au) Au.cells 44 3 24 (.agg #[i6 0,i6 0,i6 0]) (((y28.xs.length+24:Nat):Int):Int) (((y28.xs.length+24:Nat):Int):Int) (some 73) rfl rfl (by omega) (by omega) (show z≤n18 by omega) (fun n29 (hn30:n18+1≤n29) => ?_)
   refine BP 8 0 [] [[o0],[o0]] [] [(1,pt z),(C9 z),(CB z),(5,Ac i),(LZ y28),(7,.slice (some ⟨n18,0,none⟩) (y28.xs.length+24) (y28.xs.length+24)),(8,i6 0)] rfl Ae ?_
   refine Di (fun m a w'=>∃ (n32:Nat) (k8:Nat) (a8:Option Addr) (c8:Nat),m=(y28.xs.length+24) - k8∧n29≤n32∧(k8≤(y28.xs.length+24))∧St 218 [(1,pt z),(C9 z),(CB z),(5,Ac i),(LZ y28),(Rf c8 y28 k8 a8),(8,Ac k8)] [] ⟨w,n32,[(Ak w),(DT z c),(DX z),(LV z c aC cC b11 cH h0 csG aW wsG cW),(En z c b11 cH h0),(Be z 44 3 Au.cells wsG),(Be z 44 3 Au.cells spG),(EZ z aC cC csG),(EN z aW wsG cW),(BJ z 44 3 Au.cells (.slice a8 ((Eg Dq ⟨0,0,0⟩ (y28.xs.length+24) k8).length) c8) (Eg Dq ⟨0,0,0⟩ (y28.xs.length+24) k8))]⟩ a w') ((y28.xs.length+24) - 0) ?_ ?_
   ·intro a w' hs;exact⟨n29,0,(some ⟨n18,0,none⟩),(y28.xs.length+24),rfl,Nat.le_refl _,Nat.zero_le _,(by(try dsimp only[LV,Nz,DX,DT,En,LY,EZ,EN,Rf,LZ,C9,CB,MX]at hs ⊢);rw[Zh,List.length_replicate];exact hs)⟩
   rintro m a w' ⟨n32,k8,a8,c8,rfl,hn31,hkk8,hs⟩
   refine(?_:G Tryd.prog 218 [(1,pt z),(C9 z),(CB z),(5,Ac i),(LZ y28),(Rf c8 y28 k8 a8),(8,Ac k8)] [] ⟨w,n32,[(Ak w),(DT z c),(DX z),(LV z c aC cC b11 cH h0 csG aW wsG cW),(En z c b11 cH h0),(Be z 44 3 Au.cells wsG),(Be z 44 3 Au.cells spG),(EZ z aC cC csG),(EN z aW wsG cW),(BJ z 44 3 Au.cells (.slice a8 ((Eg Dq ⟨0,0,0⟩ (y28.xs.length+24) k8).length) c8) (Eg Dq ⟨0,0,0⟩ (y28.xs.length+24) k8))]⟩ _ _ _) a w' hs
   clear hs a w'
   have hfl8:(Eg Dq ⟨0,0,0⟩ (y28.xs.length+24) k8).length=(y28.xs.length+24):=Gg
   refine Ce <| Ce ?_
   by_cases h33:(k8:Int)<(((Eg Dq ⟨0,0,0⟩ (y28.xs.length+24) k8).length:Nat):Int)
   ·refine Az 9 3 [1] [[o0,o0,o0,oT],[o0,o0,o0]] [BT ((k8:Int)<(((Eg Dq ⟨0,0,0⟩ (y28.xs.length+24) k8).length:Nat):Int))] [(1,pt z),(C9 z),(CB z),(5,Ac i),(LZ y28),(Rf c8 y28 k8 a8),(8,Ac k8),(80,.slice a8 ((Eg Dq ⟨0,0,0⟩ (y28.xs.length+24) k8).length) c8),(81,Ac k8),(82,Ac k8)] rfl ⟨bt,Ae⟩ ?_
    refine Bf 17 #[(Ac k8)] (some 83) (.agg (Au.arr (Dq k8))) (fun w34 hw34=>Tn w34 k8 (by omega)) (fun n35 (hn36:n32≤n35) => ?_)
    refine Dc [1,2,3,5,6,7,8,80,81,83] [(1,pt z),(C9 z),(CB z),(5,Ac i),(LZ y28),(Rf c8 y28 k8 a8),(8,Ac k8),(80,.slice a8 ((Eg Dq ⟨0,0,0⟩ (y28.xs.length+24) k8).length) c8),(81,Ac k8),(83,.agg (Au.arr (Dq k8)))] ?_
    refine SI (base:=z) (e:=44) (sz:=3) (cells:=Au.cells) (a:=a8) (n:=((Eg Dq ⟨0,0,0⟩ (y28.xs.length+24) k8).length)) (cap:=c8) (xs:=(Eg Dq ⟨0,0,0⟩ (y28.xs.length+24) k8)) 9 (by first | omega | (simp only[Gg,List.length_map,List.length_range];omega)) (fun b37 hg38 hb39 => ?_)
    subst hg38
    refine BP 0 1 [] [[(oi k8)]] [Ci k8,k8<(Eg Dq ⟨0,0,0⟩ (y28.xs.length+24) k8).length,BN] [(1,pt z),(C9 z),(CB z),(5,Ac i),(LZ y28),(7,.slice (some ⟨b37,0,none⟩) ((Eg Dq ⟨0,0,0⟩ (y28.xs.length+24) k8).length) c8),(8,Ac k8),(83,.agg (Au.arr (Dq k8))),(84,.pointer (some ⟨b37,0+Gi 3 k8,none⟩))] rfl ⟨rfl,(by omega),rfl,Ae⟩ ?_
    refine Vj 9 k8 (Eg Dq ⟨0,0,0⟩ (y28.xs.length+24) k8) (⟨(Dq k8).Partition,(Dq k8).Ba,(Dq k8).AQ⟩:Au) Au.cells z 44 3 b37 ((Eg Dq ⟨0,0,0⟩ (y28.xs.length+24) k8).length) c8 (Au.arr (Dq k8)) none (by omega) ?_
    refine BP 5 0 [] [[],[o0,(ov (i6 ((k8+1:Nat):Int))),o0]] [Wr ((k8:Int)+1) (((k8+1:Nat):Int))] [(1,pt z),(C9 z),(CB z),(5,Ac i),(LZ y28),(7,.slice (some ⟨b37,0,none⟩) ((Eg Dq ⟨0,0,0⟩ (y28.xs.length+24) k8).length) c8),(8,i6 ((k8+1:Nat):Int))] rfl ⟨BQ,Ae⟩ ?_
    refine BD (fun a w' hs=>⟨(y28.xs.length+24) - (k8+1),by omega,n35,(k8+1),(some ⟨b37,0,none⟩),c8,rfl,by omega,by omega,(by(try dsimp only[LV,Nz,DX,DT,En,LY,EZ,EN,Rf,LZ,C9,CB,MX]at hs ⊢);rw[←ZaX (by omega),List.length_set];exact hs)⟩)
   refine Az 11 6 [0] [[o0,o0,o0,oF],[o0,o0,(DN 1 b21 o22 c.Aq),o0,(oi i),(oa [.via 0 (.slice y28.a y28.xs.length y28.cap)])]] [BF ((k8:Int)<(((Eg Dq ⟨0,0,0⟩ (y28.xs.length+24) k8).length:Nat):Int)),Qb z,Dh b21 o22 c.Aq,Ci i,i<c.Aq.xs.length,BN,Old w b21 (o22+i) (.slice y28.a y28.xs.length y28.cap)] [(1,pt z),(C9 z),(CB z),(5,Ac i),(LZ y28),(Rf c8 y28 k8 a8),(85,.slice a8 ((Eg Dq ⟨0,0,0⟩ (y28.xs.length+24) k8).length) c8),(90,.slice y28.a y28.xs.length y28.cap)] rfl ⟨bf,rfl,Df ha23,rfl,(by omega),rfl,A7 (hc26 0 _ rfl),Ae⟩ ?_
   refine SI (base:=z) (e:=44) (sz:=3) (cells:=Au.cells) (a:=a8) (n:=((Eg Dq ⟨0,0,0⟩ (y28.xs.length+24) k8).length)) (cap:=c8) (xs:=(Eg Dq ⟨0,0,0⟩ (y28.xs.length+24) k8)) 9 (by first | omega | (simp only[Gg,List.length_map,List.length_range];omega)) (fun b40 hg41 hb42 => ?_)
   subst hg41
   refine Yp z 9 0 (Eg Dq ⟨0,0,0⟩ (y28.xs.length+24) k8) y28.xs y28.a Au.cells 44 3 b40 ((Eg Dq ⟨0,0,0⟩ (y28.xs.length+24) k8).length) c8 y28.xs.length y28.cap (Ak w) (some 91) rfl (by simp only[Gg,List.length_map,List.length_range];omega) (fun w' hw=>QO (fun b k v _ hv=>A7 hv w' hw) (fun _ h=>h) (he27).1) (fun n43 (hn44:n32≤n43) => ?_)
   refine EY 4 4 [] [[],[o0,(a1 3),o0,o0]] [Qb (z+2)] [(1,pt z),(C9 z),(CB z),(5,Ac i),(LZ y28),(7,.slice (some ⟨b40,0,none⟩) ((Eg Dq ⟨0,0,0⟩ (y28.xs.length+24) k8).length) c8),(93,.slice aW wsG.length cW),(95,.slice (some ⟨n43,0,none⟩) 1 1)] ⟨w,n43+1,[(Ak w),(DT z c),(DX z),(LV z c aC cC b11 cH h0 csG aW wsG cW),(En z c b11 cH h0),(Be z 44 3 Au.cells wsG),(Be z 44 3 Au.cells spG),(EZ z aC cC csG),(EN z aW wsG cW),(Tj z b40 c8 y28 k8),(Qq b40 c8 y28 k8 n43)]⟩ rfl ⟨rfl,Ae⟩ ?_
   refine QL z 8 10 wsG [(⟨some ⟨b40,0,none⟩,c8,(y28.xs++(Eg Dq ⟨0,0,0⟩ (y28.xs.length+24) k8).drop y28.xs.length)⟩:Sl Au)] (fun x:Sl Au=>[Sl.val x]) 42 1 24 (.slice aW wsG.length cW) n43 1 1 #[.slice (some ⟨b40,0,none⟩) ((Eg Dq ⟨0,0,0⟩ (y28.xs.length+24) k8).length) c8] 42 (0,0) true (some 96) (by(try simp only[List.length_cons,List.length_nil,List.length_map,List.length_range]);omega) (by(try simp only[List.length_cons,List.length_nil,List.length_map,List.length_range]);omega) (show z≤n43+1 by omega) (fun ax45 cp46 n47 (hn48:n43+1≤n47) => ?_) (hn:=Zz (by first | rfl | (simp only[Gg,List.length_append,List.length_drop];omega)))
   refine EY 2 0 [] [[o0,(a1 3)]] [Qb (z+2)] [(1,pt z),(C9 z),(CB z),(5,Ac i),(LZ y28),(7,.slice (some ⟨b40,0,none⟩) ((Eg Dq ⟨0,0,0⟩ (y28.xs.length+24) k8).length) c8)] ⟨w,n47,[(Ak w),(DT z c),(DX z),(ZY z c aC cC b11 cH h0 csG wsG b40 c8 y28 ax45 k8 cp46),(En z c b11 cH h0),(Be z 44 3 Au.cells wsG),(Be z 44 3 Au.cells spG),(EZ z aC cC csG),(QW z wsG b40 c8 y28 ax45 k8 cp46),(Tj z b40 c8 y28 k8),(Qq b40 c8 y28 k8 n43)]⟩ rfl ⟨rfl,Ae⟩ ?_
   refine SN (base:=z) (e:=44) (sz:=3) (cells:=Au.cells) (a:=(some ⟨b40,0,none⟩)) (n:=((Eg Dq ⟨0,0,0⟩ (y28.xs.length+24) k8).length)) (cap:=c8) (xs:=(y28.xs++(Eg Dq ⟨0,0,0⟩ (y28.xs.length+24) k8).drop y28.xs.length)) 9 (by first | rfl | (simp only[Gg,List.length_append,List.length_drop,List.length_map,List.length_range];omega)) (fun hcap49 => ?_)
   (try simp only[Gg,List.length_map,List.length_range]at hcap49)
   refine Eh 8 [0,1,2,3,4,5,6,9,10] [(Ak w),(DT z c),(DX z),(ZY z c aC cC b11 cH h0 csG wsG b40 c8 y28 ax45 k8 cp46),(En z c b11 cH h0),(Be z 44 3 Au.cells wsG),(Be z 44 3 Au.cells spG),(Tj z b40 c8 y28 k8),(Qq b40 c8 y28 k8 n43)] rfl rfl ?_
   refine Dj [(0,o0),(1,(a1 3)),(2,o0),(3,o0),(4,⟨.slc 0 y28.xs.length false,none⟩)] [1,2,3,5,99,102] [Qb (z+2),(0:Int)=((0:Nat):Int),(y28.xs.length:Int)=(y28.xs.length:Int),0≤y28.xs.length,y28.xs.length≤c8,c8=0∨(0:Nat)=0] (DF 5 4) [(1,pt z),(C9 z),(CB z),(5,Ac i),(99,.slice aC csG.length cC),(102,.slice (some ⟨b40,0,none⟩) (y28.xs.length - 0) (c8 - 0))] ⟨rfl,rfl,rfl,(by omega),(by omega),.inr rfl,Ae⟩ ?_
   refine BC 5 ?_
   refine BH o0 [1,2,3,5,99,103] [] [(1,pt z),(C9 z),(CB z),(5,Ac i),(99,.slice aC csG.length cC),(103,.slice (some ⟨n47,0,none⟩) 1 1)] ⟨w,n47+1,[(Ak w),(DT z c),(DX z),(ZY z c aC cC b11 cH h0 csG wsG b40 c8 y28 ax45 k8 cp46),(En z c b11 cH h0),(Be z 44 3 Au.cells wsG),(Be z 44 3 Au.cells spG),(EZ z aC cC csG),(QW z wsG b40 c8 y28 ax45 k8 cp46),(Tj z b40 c8 y28 k8),(Qq b40 c8 y28 k8 n43),(Uf b40 c8 y28 n47)]⟩ [0,1,2,3,4,5,6,9,10] Ae (.inr rfl) ?_
   refine BC 6 ?_
   refine WN z 7 11 csG [(⟨some ⟨b40,0,none⟩,c8 - 0,y28.xs⟩:Sl Au)] (fun x:Sl Au=>[Sl.val x]) 42 1 24 (.slice aC csG.length cC) n47 1 1 #[.slice (some ⟨b40,0,none⟩) (y28.xs.length - 0) (c8 - 0)] 42 (0,0) true (some 104) [0,1,2,3,4,5,6,9,10] (by(try simp only[List.length_cons,List.length_nil,List.length_map,List.length_range]);omega) (by(try simp only[List.length_cons,List.length_nil,List.length_map,List.length_range]);omega) (show z≤n47+1 by omega) (.inr ⟨rfl,rfl⟩) (fun ax50 cp51 n52 (hn53:n47+1≤n52) => ?_) (hn:=Zz (by first | rfl | (simp only[Gg,List.length_append,List.length_drop];omega)))
   refine DU [1,2,3,5,104] [(1,pt z),(C9 z),(CB z),(5,Ac i),(104,.slice ax50 ((csG++[(⟨some ⟨b40,0,none⟩,c8 - 0,y28.xs⟩:Sl Au)]).length) cp51)] ?_
   refine Dj [(7,o0)] [1,2,3,5,104,105] [] (DF 8 1) [(1,pt z),(C9 z),(CB z),(5,Ac i),(104,.slice ax50 ((csG++[(⟨some ⟨b40,0,none⟩,c8 - 0,y28.xs⟩:Sl Au)]).length) cp51),(105,.pointer (some ⟨z+2,8,none⟩))] Ae ?_
   refine BC 8 ?_
   refine BH (a1 3) [1,2,3,5] [Qb (z+2)] [(1,pt z),(C9 z),(CB z),(5,Ac i)] ⟨w,n52,[(Ak w),(DT z c),(DX z),(VV z c b11 cH h0 csG wsG ax50 b40 c8 y28 cp51 ax45 k8 cp46),(En z c b11 cH h0),(Be z 44 3 Au.cells wsG),(Be z 44 3 Au.cells spG),(Ur z csG ax50 b40 c8 y28 cp51),(QW z wsG b40 c8 y28 ax45 k8 cp46),(Tj z b40 c8 y28 k8),(Qq b40 c8 y28 k8 n43),(Uf b40 c8 y28 n47)]⟩ [] ⟨rfl,Ae⟩ (.inl rfl) ?_
   refine Es 9 [0,1,2,3,4,5,6,7,8,9,10,11] [(Ak w),(DT z c),(DX z),(VV z c b11 cH h0 csG wsG ax50 b40 c8 y28 cp51 ax45 k8 cp46),(En z c b11 cH h0),(Be z 44 3 Au.cells wsG),(Be z 44 3 Au.cells spG),(Ur z csG ax50 b40 c8 y28 cp51),(QW z wsG b40 c8 y28 ax45 k8 cp46),(Tj z b40 c8 y28 k8),(Qq b40 c8 y28 k8 n43),(Uf b40 c8 y28 n47)] rfl rfl ?_
   refine CU ?_
   refine Jw 4 0 [] [[o0,(ov (i6 ((i+1:Nat):Int))),o0]] [Wr ((i:Int)+1) (((i+1:Nat):Int))] [(1,pt z),(C9 z),(CB z),(5,i6 ((i+1:Nat):Int))] rfl ⟨BQ,Ae⟩ ?_
   refine e_eqA ⟨w,n52,[(Ak w),(DT z c),(DX z),(VV z c b11 cH h0 csG wsG ax50 b40 c8 y28 cp51 ax45 k8 cp46),(En z c b11 cH h0),(Be z 44 3 Au.cells wsG),(Be z 44 3 Au.cells spG),(Ur z csG ax50 b40 c8 y28 cp51),(QW z wsG b40 c8 y28 ax45 k8 cp46),(BJ z 44 3 Au.cells (.slice (some ⟨b40,0,none⟩) (((y28.xs++(Eg Dq ⟨0,0,0⟩ (y28.xs.length+24) k8).drop y28.xs.length)).length) c8) (y28.xs++(Eg Dq ⟨0,0,0⟩ (y28.xs.length+24) k8).drop y28.xs.length)),(Qq b40 c8 y28 k8 n43),(Uf b40 c8 y28 n47)]⟩ (by(try dsimp only[VV,ZY,LV,Nz,DX,Qq,Uf,DT,QW,Ur,Tj,En,LY,EZ,EN,Rf,LZ,C9,CB,MX]);have h9:(Eg Dq ⟨0,0,0⟩ (y28.xs.length+24) k8).length=((y28.xs++(Eg Dq ⟨0,0,0⟩ (y28.xs.length+24) k8).drop y28.xs.length)).length:=(by simp only[Gg,List.length_append,List.length_drop];omega);first | (rw[h9];done) | (rw[h9];rfl)) ?_
   refine Ua 5 9 [0,1,2,3,4,6,7,8,10,11] (a:=(some ⟨b40,0,none⟩)) (cap:=c8) (xs:=(y28.xs++(Eg Dq ⟨0,0,0⟩ (y28.xs.length+24) k8).drop y28.xs.length)) [(Ak w),(DT z c),(DX z),(VV z c b11 cH h0 csG wsG ax50 b40 c8 y28 cp51 ax45 k8 cp46),(En z c b11 cH h0),(Be z 44 3 Au.cells spG),(Ur z csG ax50 b40 c8 y28 cp51),(QW z wsG b40 c8 y28 ax45 k8 cp46),(Qq b40 c8 y28 k8 n43),(Uf b40 c8 y28 n47)] ?_
   refine Cb [0,1,2,3,4,10,5,6,7] [(Ak w),(DT z c),(DX z),(VV z c b11 cH h0 csG wsG ax50 b40 c8 y28 cp51 ax45 k8 cp46),(En z c b11 cH h0),(Be z 44 3 Au.cells (wsG++[⟨(some ⟨b40,0,none⟩),c8,(y28.xs++(Eg Dq ⟨0,0,0⟩ (y28.xs.length+24) k8).drop y28.xs.length)⟩])),(Be z 44 3 Au.cells spG),(Ur z csG ax50 b40 c8 y28 cp51),(QW z wsG b40 c8 y28 ax45 k8 cp46)] rfl rfl ?_
   refine BK [1,2,3,5] [(1,pt z),(C9 z),(CB z),(5,i6 ((i+1:Nat):Int))] ?_
   refine BD (fun a w' hs=>⟨(c.Aq.xs.length+24) - (i+1),by omega,n52,(i+1),(csG++[(⟨some ⟨b40,0,none⟩,c8 - 0,y28.xs⟩:Sl Au)]),(wsG++[(⟨some ⟨b40,0,none⟩,c8,(y28.xs++(Eg Dq ⟨0,0,0⟩ (y28.xs.length+24) k8).drop y28.xs.length)⟩:Sl Au)]),spG,ax50,cp51,ax45,cp46,rfl,by omega,by omega,cor_in hCo (by omega) ((ZbX (by omega) (by omega)).trans (by rw[hy28])) (by rw[hy28]),hs⟩)
  refine Az 5 0 [1] [[o0,o0,(a1 1),o0,oT]] [Qb z,BT ((i:Int)≥(c.Aq.xs.length:Int))] [(1,pt z),(C9 z),(CB z),(5,Ac i),(57,.bool true)] rfl ⟨rfl,bt,Ae⟩ ?_
  refine Eh 7 [0,1,2,3,4,5,6] [(Ak w),(DT z c),(DX z),(LV z c aC cC b11 cH h0 csG aW wsG cW),(En z c b11 cH h0),(Be z 44 3 Au.cells wsG),(Be z 44 3 Au.cells spG)] rfl rfl ?_
  refine Dj [(0,o0),(1,(a1 3)),(2,o0)] [1,2,3,5,59,60] [Qb (z+2)] [true,true,true,false,false,false,false,false] [(1,pt z),(C9 z),(CB z),(5,Ac i),(59,.slice aC csG.length cC),(60,Ac i)] ⟨rfl,Ae⟩ ?_
  refine BC 3 ?_
  refine Jj [] [] 16 #[(Ac i)] (some 61) (by as_aux_lemma=>kernel_rfl) rfl rfl Ae ?_
  intro w54 hw54
  refine CE (args:=[(Ac i)]) 6 ⟨w,n18,(MX z c aC cC b11 cH h0 csG aW wsG cW w spG)⟩ Tryd.func16 rfl (by kernel_rfl) (by kernel_rfl) hw54 ?_
  refine Az 6 1 [] [[o0],[o0]] [] [(3,Ac i)] rfl Ae ?_
  refine Bf 17 #[(Ac i)] (some 4) (.agg (Au.arr (Dq i))) (fun w55 hw55=>Tn w55 i (by omega)) (fun n56 (hn57:n18≤n56) => ?_)
  refine EY 3 0 [] [[o0,o0]] [] [(2,.slice (some ⟨n56,0,none⟩) 1 1)] ⟨w,n56+1,[(Ak w),(DT z c),(DX z),(LV z c aC cC b11 cH h0 csG aW wsG cW),(En z c b11 cH h0),(Be z 44 3 Au.cells wsG),(Be z 44 3 Au.cells spG),(EZ z aC cC csG),(EN z aW wsG cW),(YJ n56 i)]⟩ rfl Ae ?_
  refine AA [] [] (.slice (some ⟨n56,0,none⟩) 1 1) Ae ?_
  intro w58 hw58
  have hs59:=hw58
  refine⟨_,_,rfl,hs59,.inr (fun c hc=>hs59.all c (by first | exact hc | exact Fe (is:=[0,1,2,3,4,5,6]) rfl c hc)), ?_⟩
  refine DU [1,2,3,5,59,61] [(1,pt z),(C9 z),(CB z),(5,Ac i),(59,.slice aC csG.length cC),(61,.slice (some ⟨n56,0,none⟩) 1 1)] ?_
  refine BC 4 ?_
  refine BH o0 [1,2,3,5,59,62] [] [(1,pt z),(C9 z),(CB z),(5,Ac i),(59,.slice aC csG.length cC),(62,.slice (some ⟨n56+1,0,none⟩) 1 1)] ⟨w,n56+2,[(Ak w),(DT z c),(DX z),(LV z c aC cC b11 cH h0 csG aW wsG cW),(En z c b11 cH h0),(Be z 44 3 Au.cells wsG),(Be z 44 3 Au.cells spG),(EZ z aC cC csG),(EN z aW wsG cW),(YJ n56 i),(Wy n56)]⟩ [0,1,2,3,4,5,6] Ae (.inr rfl) ?_
  refine BC 5 ?_
  refine WN z 7 10 csG [(⟨some ⟨n56,0,none⟩,1,[Dq i]⟩:Sl Au)] (fun x:Sl Au=>[Sl.val x]) 42 1 24 (.slice aC csG.length cC) (n56+1) 1 1 #[.slice (some ⟨n56,0,none⟩) 1 1] 42 (0,0) true (some 63) [0,1,2,3,4,5,6] (by(try simp only[List.length_cons,List.length_nil,List.length_map,List.length_range]);omega) (by(try simp only[List.length_cons,List.length_nil,List.length_map,List.length_range]);omega) (show z≤n56+2 by omega) (.inr ⟨rfl,rfl⟩) (fun ax60 cp61 n62 (hn63:n56+2≤n62) => ?_) (hn:=Zz (by first | rfl | (simp only[Gg,List.length_append,List.length_drop];omega)))
  refine DU [1,2,3,5,63] [(1,pt z),(C9 z),(CB z),(5,Ac i),(63,.slice ax60 ((csG++[(⟨some ⟨n56,0,none⟩,1,[Dq i]⟩:Sl Au)]).length) cp61)] ?_
  refine Dj [(6,o0)] [1,2,3,5,63,64] [] (DF 7 1) [(1,pt z),(C9 z),(CB z),(5,Ac i),(63,.slice ax60 ((csG++[(⟨some ⟨n56,0,none⟩,1,[Dq i]⟩:Sl Au)]).length) cp61),(64,.pointer (some ⟨z+2,8,none⟩))] Ae ?_
  refine BC 7 ?_
  refine BH (a1 3) [1,2,3,5] [Qb (z+2)] [(1,pt z),(C9 z),(CB z),(5,Ac i)] ⟨w,n62,[(Ak w),(DT z c),(DX z),(X5 z c b11 cH h0 csG aW wsG cW ax60 n56 i cp61),(En z c b11 cH h0),(Be z 44 3 Au.cells wsG),(Be z 44 3 Au.cells spG),(V5 z csG ax60 n56 i cp61),(EN z aW wsG cW),(YJ n56 i),(Wy n56)]⟩ [] ⟨rfl,Ae⟩ (.inl rfl) ?_
  refine Es 8 [0,1,2,3,4,5,6,7,8,9,10] [(Ak w),(DT z c),(DX z),(X5 z c b11 cH h0 csG aW wsG cW ax60 n56 i cp61),(En z c b11 cH h0),(Be z 44 3 Au.cells wsG),(Be z 44 3 Au.cells spG),(V5 z csG ax60 n56 i cp61),(EN z aW wsG cW),(YJ n56 i),(Wy n56)] rfl rfl ?_
  refine CU ?_
  refine Jw 7 0 [] [[o0,(ov (i6 ((i+1:Nat):Int))),o0]] [Wr ((i:Int)+1) (((i+1:Nat):Int))] [(1,pt z),(C9 z),(CB z),(5,i6 ((i+1:Nat):Int))] rfl ⟨BQ,Ae⟩ ?_
  refine e_blkrow 9 n56 z 44 3 Au.cells [Dq i] #[i6 ((Dq i).Partition),i6 ((Dq i).Ba),i6 ((Dq i).AQ)] (by omega) (?_:E _ _ _ _ ⟨w,n62,[(Ak w),(DT z c),(DX z),(X5 z c b11 cH h0 csG aW wsG cW ax60 n56 i cp61),(En z c b11 cH h0),(Be z 44 3 Au.cells wsG),(Be z 44 3 Au.cells spG),(V5 z csG ax60 n56 i cp61),(EN z aW wsG cW),(BJ z 44 3 Au.cells (.slice (some ⟨n56,0,none⟩) 1 1) ([Dq i])),(Wy n56)]⟩ _ _ _)
  refine Ua 6 9 [0,1,2,3,4,5,7,8,10] (a:=(some ⟨n56,0,none⟩)) (cap:=1) (xs:=([Dq i])) [(Ak w),(DT z c),(DX z),(X5 z c b11 cH h0 csG aW wsG cW ax60 n56 i cp61),(En z c b11 cH h0),(Be z 44 3 Au.cells wsG),(V5 z csG ax60 n56 i cp61),(EN z aW wsG cW),(Wy n56)] ?_
  refine Cb [0,1,2,3,4,5,9,6,7] [(Ak w),(DT z c),(DX z),(X5 z c b11 cH h0 csG aW wsG cW ax60 n56 i cp61),(En z c b11 cH h0),(Be z 44 3 Au.cells wsG),(Be z 44 3 Au.cells (spG++[⟨(some ⟨n56,0,none⟩),1,[Dq i]⟩])),(V5 z csG ax60 n56 i cp61),(EN z aW wsG cW)] rfl rfl ?_
  refine BK [1,2,3,5] [(1,pt z),(C9 z),(CB z),(5,i6 ((i+1:Nat):Int))] ?_
  refine BD (fun a w' hs=>⟨(c.Aq.xs.length+24) - (i+1),by omega,n62,(i+1),(csG++[(⟨some ⟨n56,0,none⟩,1,[Dq i]⟩:Sl Au)]),wsG,(spG++[⟨(some ⟨n56,0,none⟩),1,[Dq i]⟩]),ax60,cp61,aW,cW,rfl,by omega,by omega,cor_out hCo (by omega),hs⟩)
 refine Az 10 0 [0] [[o0,o0,(a1 1),o0,(ov (i6 ((c.Aq.xs.length+24:Nat):Int))),oF]] [Qb z,Wr ((c.Aq.xs.length:Int)+24) (((c.Aq.xs.length+24:Nat):Int)),BF ((i:Int)<((c.Aq.xs.length+24:Nat):Int))] [(1,pt z),(C9 z),(CB z),(5,Ac i),(50,.bool false)] rfl ⟨rfl,BQ,bf,Ae⟩ ?_
 refine SN (base:=z) (e:=42) (sz:=1) (cells:=(fun x:Sl Au=>[Sl.val x])) (a:=aC) (n:=csG.length) (cap:=cC) (xs:=csG) 7 (by first | rfl | (simp only[Gg,List.length_append,List.length_drop,List.length_map,List.length_range];omega)) (fun hcap64 => ?_)
 (try simp only[Gg,List.length_map,List.length_range]at hcap64)
 refine q_c 9 0 [] [[o0,(a1 3),o0,(a1 1),o0,⟨.slc 0 c.Aq.xs.length false,none⟩,o0,o0,(a1 3)],[o0]] [Qb (z+2),Qb z,(0:Int)=((0:Nat):Int),(c.Aq.xs.length:Int)=(c.Aq.xs.length:Int),0≤c.Aq.xs.length,c.Aq.xs.length≤cC,cC=0∨(0:Nat)=0,Qb (z+2)] [(1,pt z),(C9 z),(CB z),(9,i6 0)] ⟨w,n18,[(Ak w),(DT z c),(DX z),(bk (z+2) #[i6 c.Frames,i6 c.CJ,i6 c.Kernel,i6 c.Room,.slice aC (c.Aq.xs.length - 0) (cC - 0),.slice c.Aa.a c.Aa.xs.length c.Aa.cap,.slice (some ⟨b11,0,none⟩) (c.Ag.xs.length - 0) (cH - 0),.slice (some ⟨b11,0,none⟩) (((List.range h0).map DD).length) cH,.slice aC csG.length cC,.slice aW wsG.length cW,.slice none 0 0,.slice none 0 0,.slice none 0 0] 30),(En z c b11 cH h0),(Be z 44 3 Au.cells wsG),(Be z 44 3 Au.cells spG),(EZ z aC cC csG),(EN z aW wsG cW)]⟩ rfl ⟨rfl,rfl,rfl,rfl,(by omega),(by omega),.inr rfl,rfl,Ae⟩ ?_
 refine RH z 49 4 A8.cells ?_
 refine RH z 57 2 Bh.cells ?_
 refine OZ z 41 8 Ap.cells ?_
 refine OZ z 38 1 (fun x:Sl A8=>[Sl.val x]) ?_
 refine OZ z 39 1 (fun x:Sl Bh=>[Sl.val x]) ?_
 refine Di (fun m a w'=>∃ (n66:Nat) (p:Nat) (psG:List Ap) (rsG:List (Sl A8)) (qsG:List (Sl Bh)) (aP:Option Addr) (cP:Nat) (aR:Option Addr) (cR:Nat) (aQ:Option Addr) (cQ:Nat),m=(c.Aa.xs.length+24) - p∧n18≤n66∧(p≤(c.Aa.xs.length+24))∧(Oa c p psG rsG qsG)∧St 218 [(1,pt z),(C9 z),(CB z),(9,Ac p)] [] ⟨w,n66,[(Ak w),(DT z c),(DX z),(LW z c aC cC b11 cH h0 csG aW wsG cW psG rsG qsG aP cP aR cR aQ cQ),(En z c b11 cH h0),(Be z 44 3 Au.cells wsG),(Be z 44 3 Au.cells spG),(EZ z aC cC csG),(EN z aW wsG cW),(Be z 49 4 A8.cells rsG),(Be z 57 2 Bh.cells qsG),(Ji z psG aP cP),(Jp z rsG aR cR),(IZ z qsG aQ cQ)]⟩ a w') ((c.Aa.xs.length+24) - 0) ?_ ?_
 ·intro a w' hs;exact⟨n18,0,([]),([]),([]),none,0,none,0,none,0,rfl,Nat.le_refl _,Nat.zero_le _,prt_nil,hs⟩
 rintro m a w' ⟨n66,p,psG,rsG,qsG,aP,cP,aR,cR,aQ,cQ,rfl,hn65,hkp,hPr,hs⟩
 refine(?_:G Tryd.prog 218 [(1,pt z),(C9 z),(CB z),(9,Ac p)] [] ⟨w,n66,[(Ak w),(DT z c),(DX z),(LW z c aC cC b11 cH h0 csG aW wsG cW psG rsG qsG aP cP aR cR aQ cQ),(En z c b11 cH h0),(Be z 44 3 Au.cells wsG),(Be z 44 3 Au.cells spG),(EZ z aC cC csG),(EN z aW wsG cW),(Be z 49 4 A8.cells rsG),(Be z 57 2 Bh.cells qsG),(Ji z psG aP cP),(Jp z rsG aR cR),(IZ z qsG aQ cQ)]⟩ _ _ _) a w' hs
 clear hs a w'
 have hl4:=hPr.l1;have hl5:=hPr.l2;have hl6:=hPr.l3
 refine Ce <| Ce ?_
 by_cases h67:(p:Int)<((c.Aa.xs.length+24:Nat):Int)
 ·refine Az 10 0 [1] [[o0,o0,(a1 1),o0,(ov (i6 ((c.Aa.xs.length+24:Nat):Int))),oT]] [Qb z,Wr ((c.Aa.xs.length:Int)+24) (((c.Aa.xs.length+24:Nat):Int)),BT ((p:Int)<((c.Aa.xs.length+24:Nat):Int))] [(1,pt z),(C9 z),(CB z),(9,Ac p),(119,.bool true)] rfl ⟨rfl,BQ,bt,Ae⟩ ?_
  by_cases h68:(p:Int)<(c.Aa.xs.length:Int)
  ·refine Az 7 0 [0] [[o0,o0,(a1 1),o0,oF]] [Qb z,BF ((p:Int)≥(c.Aa.xs.length:Int))] [(1,pt z),(C9 z),(CB z),(9,Ac p),(126,.bool false)] rfl ⟨rfl,bf,Ae⟩ ?_
   obtain⟨b69,o70,ha71,hF73,hc72⟩:=(hc.Aa).1.all (show 0<c.Aa.xs.length by omega)
   replace ha71:c.Aa.a=some ⟨b69,o70,none⟩:=ha71
   have hc74:=hc72 p (show p<c.Aa.xs.length by omega)
   have he75:=(hc.Aa).2 p (show p<c.Aa.xs.length by omega)
   obtain⟨y76,hy76⟩:∃ y_,y_=gd c.Aa.xs p:=⟨_,rfl⟩
   rw[←hy76]at he75 hc74
   have hlr:=hLim.rs p (by omega);have hlq:=hLim.qs p (by omega);rw[←hy76]at hlr hlq
   refine q_c 5 4 [] [[o0,(DN 1 b69 o70 c.Aa),o0,(oi p),(ol 0 (Ap.arr y76)),o0,(an 8 14)],[o0,(a1 14),o0,(ov (i6 ((y76.Af.xs.length+24:Nat):Int)))]] [Qb z,Dh b69 o70 c.Aa,Ci p,p<c.Aa.xs.length,BN,Fa w b69 (o70+p*8) (Ap.arr y76),Qb n66,Qb n66,Qb n66,Qb n66,Qb n66,Qb n66,Qb n66,Qb n66,Qb n66,Wr ((y76.Af.xs.length:Int)+24) (((y76.Af.xs.length+24:Nat):Int))] [(1,pt z),(C9 z),(CB z),(9,Ac p),(Hr n66),(142,i6 ((y76.Af.xs.length+24:Nat):Int))] ⟨w,n66+1,[(Ak w),(DT z c),(DX z),(LW z c aC cC b11 cH h0 csG aW wsG cW psG rsG qsG aP cP aR cR aQ cQ),(En z c b11 cH h0),(Be z 44 3 Au.cells wsG),(Be z 44 3 Au.cells spG),(EZ z aC cC csG),(EN z aW wsG cW),(Be z 49 4 A8.cells rsG),(Be z 57 2 Bh.cells qsG),(Ji z psG aP cP),(Jp z rsG aR cR),(IZ z qsG aQ cQ),(Me y76 n66)]⟩ rfl ⟨rfl,Df ha71,rfl,(by omega),rfl,Dt hc74,rfl,rfl,rfl,rfl,rfl,rfl,rfl,rfl,rfl,BQ,Ae⟩ ?_
   refine VJ z (y76.Af.xs.length+24) (⟨0,0,0,0⟩:A8) A8.cells 49 4 32 (.agg #[i6 0,i6 0,i6 0,i6 0]) (((y76.Af.xs.length+24:Nat):Int):Int) (((y76.Af.xs.length+24:Nat):Int):Int) (some 143) rfl rfl (by omega) (by omega) (show z≤n66+1 by omega) (fun n77 (hn78:n66+1+1≤n77) => ?_)
   refine BP 8 0 [] [[o0],[o0]] [] [(1,pt z),(C9 z),(CB z),(9,Ac p),(Hr n66),(11,.slice (some ⟨n66+1,0,none⟩) (y76.Af.xs.length+24) (y76.Af.xs.length+24)),(12,i6 0)] rfl Ae ?_
   refine Di (fun m a w'=>∃ (n80:Nat) (k12:Nat) (a12:Option Addr) (c12:Nat),m=(y76.Af.xs.length+24) - k12∧n77≤n80∧(k12≤(y76.Af.xs.length+24))∧St 218 [(1,pt z),(C9 z),(CB z),(9,Ac p),(Hr n66),(O4 y76 c12 k12 a12),(12,Ac k12)] [] ⟨w,n80,[(Ak w),(DT z c),(DX z),(LW z c aC cC b11 cH h0 csG aW wsG cW psG rsG qsG aP cP aR cR aQ cQ),(En z c b11 cH h0),(Be z 44 3 Au.cells wsG),(Be z 44 3 Au.cells spG),(EZ z aC cC csG),(EN z aW wsG cW),(Be z 49 4 A8.cells rsG),(Be z 57 2 Bh.cells qsG),(Ji z psG aP cP),(Jp z rsG aR cR),(IZ z qsG aQ cQ),(Me y76 n66),(QN z y76 c12 k12 a12)]⟩ a w') ((y76.Af.xs.length+24) - 0) ?_ ?_
   ·intro a w' hs;exact⟨n77,0,(some ⟨n66+1,0,none⟩),(y76.Af.xs.length+24),rfl,Nat.le_refl _,Nat.zero_le _,(by(try dsimp only[LW,LV,Nz,DX,Me,DT,En,QN,LY,EZ,EN,Jp,IZ,Ji,O4,C9,CB,Hr,MX]at hs ⊢);rw[Zh,List.length_replicate];exact hs)⟩
   rintro m a w' ⟨n80,k12,a12,c12,rfl,hn79,hkk12,hs⟩
   refine(?_:G Tryd.prog 218 [(1,pt z),(C9 z),(CB z),(9,Ac p),(Hr n66),(O4 y76 c12 k12 a12),(12,Ac k12)] [] ⟨w,n80,[(Ak w),(DT z c),(DX z),(LW z c aC cC b11 cH h0 csG aW wsG cW psG rsG qsG aP cP aR cR aQ cQ),(En z c b11 cH h0),(Be z 44 3 Au.cells wsG),(Be z 44 3 Au.cells spG),(EZ z aC cC csG),(EN z aW wsG cW),(Be z 49 4 A8.cells rsG),(Be z 57 2 Bh.cells qsG),(Ji z psG aP cP),(Jp z rsG aR cR),(IZ z qsG aQ cQ),(Me y76 n66),(QN z y76 c12 k12 a12)]⟩ _ _ _) a w' hs
   clear hs a w'
   have hfl12:(Eg Ez ⟨0,0,0,0⟩ (y76.Af.xs.length+24) k12).length=(y76.Af.xs.length+24):=Gg
   refine Ce <| Ce ?_
   by_cases h81:(k12:Int)<(((Eg Ez ⟨0,0,0,0⟩ (y76.Af.xs.length+24) k12).length:Nat):Int)
   ·refine Az 9 3 [1] [[o0,o0,o0,oT],[o0,o0,o0]] [BT ((k12:Int)<(((Eg Ez ⟨0,0,0,0⟩ (y76.Af.xs.length+24) k12).length:Nat):Int))] [(1,pt z),(C9 z),(CB z),(9,Ac p),(Hr n66),(O4 y76 c12 k12 a12),(12,Ac k12),(150,.slice a12 ((Eg Ez ⟨0,0,0,0⟩ (y76.Af.xs.length+24) k12).length) c12),(151,Ac k12),(152,Ac k12)] rfl ⟨bt,Ae⟩ ?_
    refine Bf 19 #[(Ac k12)] (some 153) (.agg (A8.arr (Ez k12))) (fun w82 hw82=>YS w82 k12 (by omega)) (fun n83 (hn84:n80≤n83) => ?_)
    refine Dc [1,2,3,9,10,11,12,150,151,153] [(1,pt z),(C9 z),(CB z),(9,Ac p),(Hr n66),(O4 y76 c12 k12 a12),(12,Ac k12),(150,.slice a12 ((Eg Ez ⟨0,0,0,0⟩ (y76.Af.xs.length+24) k12).length) c12),(151,Ac k12),(153,.agg (A8.arr (Ez k12)))] ?_
    refine SI (base:=z) (e:=49) (sz:=4) (cells:=A8.cells) (a:=a12) (n:=((Eg Ez ⟨0,0,0,0⟩ (y76.Af.xs.length+24) k12).length)) (cap:=c12) (xs:=(Eg Ez ⟨0,0,0,0⟩ (y76.Af.xs.length+24) k12)) 15 (by first | omega | (simp only[Gg,List.length_map,List.length_range];omega)) (fun b85 hg86 hb87 => ?_)
    subst hg86
    refine BP 0 1 [] [[(oi k12)]] [Ci k12,k12<(Eg Ez ⟨0,0,0,0⟩ (y76.Af.xs.length+24) k12).length,BN] [(1,pt z),(C9 z),(CB z),(9,Ac p),(Hr n66),(11,.slice (some ⟨b85,0,none⟩) ((Eg Ez ⟨0,0,0,0⟩ (y76.Af.xs.length+24) k12).length) c12),(12,Ac k12),(153,.agg (A8.arr (Ez k12))),(154,.pointer (some ⟨b85,0+Gi 4 k12,none⟩))] rfl ⟨rfl,(by omega),rfl,Ae⟩ ?_
    refine Vj 15 k12 (Eg Ez ⟨0,0,0,0⟩ (y76.Af.xs.length+24) k12) (⟨(Ez k12).Bj,(Ez k12).AV,(Ez k12).Frame,(Ez k12).GM⟩:A8) A8.cells z 49 4 b85 ((Eg Ez ⟨0,0,0,0⟩ (y76.Af.xs.length+24) k12).length) c12 (A8.arr (Ez k12)) none (by omega) ?_
    refine BP 5 0 [] [[],[o0,(ov (i6 ((k12+1:Nat):Int))),o0]] [Wr ((k12:Int)+1) (((k12+1:Nat):Int))] [(1,pt z),(C9 z),(CB z),(9,Ac p),(Hr n66),(11,.slice (some ⟨b85,0,none⟩) ((Eg Ez ⟨0,0,0,0⟩ (y76.Af.xs.length+24) k12).length) c12),(12,i6 ((k12+1:Nat):Int))] rfl ⟨BQ,Ae⟩ ?_
    refine BD (fun a w' hs=>⟨(y76.Af.xs.length+24) - (k12+1),by omega,n83,(k12+1),(some ⟨b85,0,none⟩),c12,rfl,by omega,by omega,(by(try dsimp only[LW,LV,Nz,DX,Me,DT,En,QN,LY,EZ,EN,Jp,IZ,Ji,O4,C9,CB,Hr,MX]at hs ⊢);rw[←ZaX (by omega),List.length_set];exact hs)⟩)
   refine Az 11 3 [0] [[o0,o0,o0,oF],[o0,o0,(a1 14)]] [BF ((k12:Int)<(((Eg Ez ⟨0,0,0,0⟩ (y76.Af.xs.length+24) k12).length:Nat):Int)),Qb n66] [(1,pt z),(C9 z),(CB z),(9,Ac p),(Hr n66),(O4 y76 c12 k12 a12),(155,.slice a12 ((Eg Ez ⟨0,0,0,0⟩ (y76.Af.xs.length+24) k12).length) c12),(157,.slice y76.Af.a y76.Af.xs.length y76.Af.cap)] rfl ⟨bf,rfl,Ae⟩ ?_
   refine SI (base:=z) (e:=49) (sz:=4) (cells:=A8.cells) (a:=a12) (n:=((Eg Ez ⟨0,0,0,0⟩ (y76.Af.xs.length+24) k12).length)) (cap:=c12) (xs:=(Eg Ez ⟨0,0,0,0⟩ (y76.Af.xs.length+24) k12)) 15 (by first | omega | (simp only[Gg,List.length_map,List.length_range];omega)) (fun b88 hg89 hb90 => ?_)
   subst hg89
   refine Yp z 15 0 (Eg Ez ⟨0,0,0,0⟩ (y76.Af.xs.length+24) k12) y76.Af.xs y76.Af.a A8.cells 49 4 b88 ((Eg Ez ⟨0,0,0,0⟩ (y76.Af.xs.length+24) k12).length) c12 y76.Af.xs.length y76.Af.cap (Ak w) (some 158) rfl (by simp only[Gg,List.length_map,List.length_range];omega) (fun w' hw=>QO (fun b k v _ hv=>A7 hv w' hw) (fun _ h=>h) (he75.Af).1) (fun n91 (hn92:n80≤n91) => ?_)
   refine BP 4 4 [] [[],[o0,(a1 14),o0,(ov (i6 ((y76.Am.xs.length+24:Nat):Int)))]] [Qb n66,Wr ((y76.Am.xs.length:Int)+24) (((y76.Am.xs.length+24:Nat):Int))] [(1,pt z),(C9 z),(CB z),(9,Ac p),(Hr n66),(KZ y76 b88 c12 k12),(162,i6 ((y76.Am.xs.length+24:Nat):Int))] rfl ⟨rfl,BQ,Ae⟩ ?_
   refine VJ z (y76.Am.xs.length+24) (⟨0,false⟩:Bh) Bh.cells 57 2 16 (.agg #[i6 0,.bool false]) (((y76.Am.xs.length+24:Nat):Int):Int) (((y76.Am.xs.length+24:Nat):Int):Int) (some 163) rfl rfl (by omega) (by omega) (show z≤n91 by omega) (fun n93 (hn94:n91+1≤n93) => ?_)
   refine BP 8 0 [] [[o0],[o0]] [] [(1,pt z),(C9 z),(CB z),(9,Ac p),(Hr n66),(KZ y76 b88 c12 k12),(13,.slice (some ⟨n91,0,none⟩) (y76.Am.xs.length+24) (y76.Am.xs.length+24)),(14,i6 0)] rfl Ae ?_
   refine Di (fun m a w'=>∃ (n96:Nat) (k14:Nat) (a14:Option Addr) (c14:Nat),m=(y76.Am.xs.length+24) - k14∧n93≤n96∧(k14≤(y76.Am.xs.length+24))∧St 218 [(1,pt z),(C9 z),(CB z),(9,Ac p),(Hr n66),(KZ y76 b88 c12 k12),(Ql y76 c14 k14 a14),(14,Ac k14)] [] ⟨w,n96,[(Ak w),(DT z c),(DX z),(LW z c aC cC b11 cH h0 csG aW wsG cW psG rsG qsG aP cP aR cR aQ cQ),(En z c b11 cH h0),(Be z 44 3 Au.cells wsG),(Be z 44 3 Au.cells spG),(EZ z aC cC csG),(EN z aW wsG cW),(Be z 49 4 A8.cells rsG),(Be z 57 2 Bh.cells qsG),(Ji z psG aP cP),(Jp z rsG aR cR),(IZ z qsG aQ cQ),(Me y76 n66),(NI z y76 b88 c12 k12),(BJ z 57 2 Bh.cells (.slice a14 ((Eg EG ⟨0,false⟩ (y76.Am.xs.length+24) k14).length) c14) (Eg EG ⟨0,false⟩ (y76.Am.xs.length+24) k14))]⟩ a w') ((y76.Am.xs.length+24) - 0) ?_ ?_
   ·intro a w' hs;exact⟨n93,0,(some ⟨n91,0,none⟩),(y76.Am.xs.length+24),rfl,Nat.le_refl _,Nat.zero_le _,(by(try dsimp only[LW,LV,Nz,DX,Me,DT,NI,En,QN,LY,EZ,EN,Jp,IZ,Ji,KZ,O4,Ql,C9,CB,Hr,MX]at hs ⊢);rw[Zh,List.length_replicate];exact hs)⟩
   rintro m a w' ⟨n96,k14,a14,c14,rfl,hn95,hkk14,hs⟩
   refine(?_:G Tryd.prog 218 [(1,pt z),(C9 z),(CB z),(9,Ac p),(Hr n66),(KZ y76 b88 c12 k12),(Ql y76 c14 k14 a14),(14,Ac k14)] [] ⟨w,n96,[(Ak w),(DT z c),(DX z),(LW z c aC cC b11 cH h0 csG aW wsG cW psG rsG qsG aP cP aR cR aQ cQ),(En z c b11 cH h0),(Be z 44 3 Au.cells wsG),(Be z 44 3 Au.cells spG),(EZ z aC cC csG),(EN z aW wsG cW),(Be z 49 4 A8.cells rsG),(Be z 57 2 Bh.cells qsG),(Ji z psG aP cP),(Jp z rsG aR cR),(IZ z qsG aQ cQ),(Me y76 n66),(NI z y76 b88 c12 k12),(BJ z 57 2 Bh.cells (.slice a14 ((Eg EG ⟨0,false⟩ (y76.Am.xs.length+24) k14).length) c14) (Eg EG ⟨0,false⟩ (y76.Am.xs.length+24) k14))]⟩ _ _ _) a w' hs
   clear hs a w'
   have hfl14:(Eg EG ⟨0,false⟩ (y76.Am.xs.length+24) k14).length=(y76.Am.xs.length+24):=Gg
   refine Ce <| Ce ?_
   by_cases h97:(k14:Int)<(((Eg EG ⟨0,false⟩ (y76.Am.xs.length+24) k14).length:Nat):Int)
   ·refine Az 9 3 [1] [[o0,o0,o0,oT],[o0,o0,o0]] [BT ((k14:Int)<(((Eg EG ⟨0,false⟩ (y76.Am.xs.length+24) k14).length:Nat):Int))] [(1,pt z),(C9 z),(CB z),(9,Ac p),(Hr n66),(KZ y76 b88 c12 k12),(Ql y76 c14 k14 a14),(14,Ac k14),(170,.slice a14 ((Eg EG ⟨0,false⟩ (y76.Am.xs.length+24) k14).length) c14),(171,Ac k14),(172,Ac k14)] rfl ⟨bt,Ae⟩ ?_
    refine Bf 20 #[(Ac k14)] (some 173) (.agg (Bh.arr (EG k14))) (fun w98 hw98=>YP w98 k14 (by omega)) (fun n99 (hn100:n96≤n99) => ?_)
    refine Dc [1,2,3,9,10,11,13,14,170,171,173] [(1,pt z),(C9 z),(CB z),(9,Ac p),(Hr n66),(KZ y76 b88 c12 k12),(Ql y76 c14 k14 a14),(14,Ac k14),(170,.slice a14 ((Eg EG ⟨0,false⟩ (y76.Am.xs.length+24) k14).length) c14),(171,Ac k14),(173,.agg (Bh.arr (EG k14)))] ?_
    refine SI (base:=z) (e:=57) (sz:=2) (cells:=Bh.cells) (a:=a14) (n:=((Eg EG ⟨0,false⟩ (y76.Am.xs.length+24) k14).length)) (cap:=c14) (xs:=(Eg EG ⟨0,false⟩ (y76.Am.xs.length+24) k14)) 16 (by first | omega | (simp only[Gg,List.length_map,List.length_range];omega)) (fun b101 hg102 hb103 => ?_)
    subst hg102
    refine BP 0 1 [] [[(oi k14)]] [Ci k14,k14<(Eg EG ⟨0,false⟩ (y76.Am.xs.length+24) k14).length,BN] [(1,pt z),(C9 z),(CB z),(9,Ac p),(Hr n66),(KZ y76 b88 c12 k12),(13,.slice (some ⟨b101,0,none⟩) ((Eg EG ⟨0,false⟩ (y76.Am.xs.length+24) k14).length) c14),(14,Ac k14),(173,.agg (Bh.arr (EG k14))),(174,.pointer (some ⟨b101,0+Gi 2 k14,none⟩))] rfl ⟨rfl,(by omega),rfl,Ae⟩ ?_
    refine Vj 16 k14 (Eg EG ⟨0,false⟩ (y76.Am.xs.length+24) k14) (⟨(EG k14).Channel,(EG k14).Source⟩:Bh) Bh.cells z 57 2 b101 ((Eg EG ⟨0,false⟩ (y76.Am.xs.length+24) k14).length) c14 (Bh.arr (EG k14)) none (by omega) ?_
    refine BP 5 0 [] [[],[o0,(ov (i6 ((k14+1:Nat):Int))),o0]] [Wr ((k14:Int)+1) (((k14+1:Nat):Int))] [(1,pt z),(C9 z),(CB z),(9,Ac p),(Hr n66),(KZ y76 b88 c12 k12),(13,.slice (some ⟨b101,0,none⟩) ((Eg EG ⟨0,false⟩ (y76.Am.xs.length+24) k14).length) c14),(14,i6 ((k14+1:Nat):Int))] rfl ⟨BQ,Ae⟩ ?_
    refine BD (fun a w' hs=>⟨(y76.Am.xs.length+24) - (k14+1),by omega,n99,(k14+1),(some ⟨b101,0,none⟩),c14,rfl,by omega,by omega,(by(try dsimp only[LW,LV,Nz,DX,Me,DT,NI,En,QN,LY,EZ,EN,Jp,IZ,Ji,KZ,O4,Ql,C9,CB,Hr,MX]at hs ⊢);rw[←ZaX (by omega),List.length_set];exact hs)⟩)
   refine Az 11 3 [0] [[o0,o0,o0,oF],[o0,o0,(a1 14)]] [BF ((k14:Int)<(((Eg EG ⟨0,false⟩ (y76.Am.xs.length+24) k14).length:Nat):Int)),Qb n66] [(1,pt z),(C9 z),(CB z),(9,Ac p),(Hr n66),(KZ y76 b88 c12 k12),(Ql y76 c14 k14 a14),(175,.slice a14 ((Eg EG ⟨0,false⟩ (y76.Am.xs.length+24) k14).length) c14),(177,.slice y76.Am.a y76.Am.xs.length y76.Am.cap)] rfl ⟨bf,rfl,Ae⟩ ?_
   refine SI (base:=z) (e:=57) (sz:=2) (cells:=Bh.cells) (a:=a14) (n:=((Eg EG ⟨0,false⟩ (y76.Am.xs.length+24) k14).length)) (cap:=c14) (xs:=(Eg EG ⟨0,false⟩ (y76.Am.xs.length+24) k14)) 16 (by first | omega | (simp only[Gg,List.length_map,List.length_range];omega)) (fun b104 hg105 hb106 => ?_)
   subst hg105
   refine Yp z 16 0 (Eg EG ⟨0,false⟩ (y76.Am.xs.length+24) k14) y76.Am.xs y76.Am.a Bh.cells 57 2 b104 ((Eg EG ⟨0,false⟩ (y76.Am.xs.length+24) k14).length) c14 y76.Am.xs.length y76.Am.cap (Ak w) (some 178) rfl (by simp only[Gg,List.length_map,List.length_range];omega) (fun w' hw=>QO (fun b k v _ hv=>A7 hv w' hw) (fun _ h=>h) (he75.Am).1) (fun n107 (hn108:n96≤n107) => ?_)
   refine EY 4 4 [] [[],[o0,(a1 3),o0,o0]] [Qb (z+2)] [(1,pt z),(C9 z),(CB z),(9,Ac p),(Hr n66),(KZ y76 b88 c12 k12),(Uj y76 b104 c14 k14),(180,.slice aR rsG.length cR),(182,.slice (some ⟨n107,0,none⟩) 1 1)] ⟨w,n107+1,[(Ak w),(DT z c),(DX z),(LW z c aC cC b11 cH h0 csG aW wsG cW psG rsG qsG aP cP aR cR aQ cQ),(En z c b11 cH h0),(Be z 44 3 Au.cells wsG),(Be z 44 3 Au.cells spG),(EZ z aC cC csG),(EN z aW wsG cW),(Be z 49 4 A8.cells rsG),(Be z 57 2 Bh.cells qsG),(Ji z psG aP cP),(Jp z rsG aR cR),(IZ z qsG aQ cQ),(Me y76 n66),(NI z y76 b88 c12 k12),(P7 z y76 b104 c14 k14),(NH y76 b88 c12 k12 n107)]⟩ rfl ⟨rfl,Ae⟩ ?_
   refine QL z 12 17 rsG [(⟨some ⟨b88,0,none⟩,c12,(y76.Af.xs++(Eg Ez ⟨0,0,0,0⟩ (y76.Af.xs.length+24) k12).drop y76.Af.xs.length)⟩:Sl A8)] (fun x:Sl A8=>[Sl.val x]) 38 1 24 (.slice aR rsG.length cR) n107 1 1 #[.slice (some ⟨b88,0,none⟩) ((Eg Ez ⟨0,0,0,0⟩ (y76.Af.xs.length+24) k12).length) c12] 38 (0,0) true (some 183) (by(try simp only[List.length_cons,List.length_nil,List.length_map,List.length_range]);omega) (by(try simp only[List.length_cons,List.length_nil,List.length_map,List.length_range]);omega) (show z≤n107+1 by omega) (fun ax109 cp110 n111 (hn112:n107+1≤n111) => ?_) (hn:=Zz (by first | rfl | (simp only[Gg,List.length_append,List.length_drop];omega)))
   refine EY 4 4 [] [[o0,(a1 3)],[o0,(a1 3),o0,o0]] [Qb (z+2),Qb (z+2)] [(1,pt z),(C9 z),(CB z),(9,Ac p),(Hr n66),(KZ y76 b88 c12 k12),(Uj y76 b104 c14 k14),(186,.slice aQ qsG.length cQ),(188,.slice (some ⟨n111,0,none⟩) 1 1)] ⟨w,n111+1,[(Ak w),(DT z c),(DX z),(bk (z+2) #[i6 c.Frames,i6 c.CJ,i6 c.Kernel,i6 c.Room,.slice aC (c.Aq.xs.length - 0) (cC - 0),.slice c.Aa.a c.Aa.xs.length c.Aa.cap,.slice (some ⟨b11,0,none⟩) (c.Ag.xs.length - 0) (cH - 0),.slice (some ⟨b11,0,none⟩) (((List.range h0).map DD).length) cH,.slice aC csG.length cC,.slice aW wsG.length cW,.slice aP psG.length cP,.slice ax109 ((rsG++[(⟨some ⟨b88,0,none⟩,c12,(y76.Af.xs++(Eg Ez ⟨0,0,0,0⟩ (y76.Af.xs.length+24) k12).drop y76.Af.xs.length)⟩:Sl A8)]).length) cp110,.slice aQ qsG.length cQ] 30),(En z c b11 cH h0),(Be z 44 3 Au.cells wsG),(Be z 44 3 Au.cells spG),(EZ z aC cC csG),(EN z aW wsG cW),(Be z 49 4 A8.cells rsG),(Be z 57 2 Bh.cells qsG),(Ji z psG aP cP),(NJ z y76 b88 c12 ax109 rsG k12 cp110),(IZ z qsG aQ cQ),(Me y76 n66),(NI z y76 b88 c12 k12),(P7 z y76 b104 c14 k14),(NH y76 b88 c12 k12 n107),(OH y76 b104 c14 k14 n111)]⟩ rfl ⟨rfl,rfl,Ae⟩ ?_
   refine QL z 13 18 qsG [(⟨some ⟨b104,0,none⟩,c14,(y76.Am.xs++(Eg EG ⟨0,false⟩ (y76.Am.xs.length+24) k14).drop y76.Am.xs.length)⟩:Sl Bh)] (fun x:Sl Bh=>[Sl.val x]) 39 1 24 (.slice aQ qsG.length cQ) n111 1 1 #[.slice (some ⟨b104,0,none⟩) ((Eg EG ⟨0,false⟩ (y76.Am.xs.length+24) k14).length) c14] 39 (0,0) true (some 189) (by(try simp only[List.length_cons,List.length_nil,List.length_map,List.length_range]);omega) (by(try simp only[List.length_cons,List.length_nil,List.length_map,List.length_range]);omega) (show z≤n111+1 by omega) (fun ax113 cp114 n115 (hn116:n111+1≤n115) => ?_) (hn:=Zz (by first | rfl | (simp only[Gg,List.length_append,List.length_drop];omega)))
   refine EY 3 0 [] [[o0,(a1 3)]] [Qb (z+2)] [(1,pt z),(C9 z),(CB z),(9,Ac p),(Hr n66),(KZ y76 b88 c12 k12),(Uj y76 b104 c14 k14)] ⟨w,n115,[(Ak w),(DT z c),(DX z),(Xz z c aC cC b11 cH h0 csG aW wsG cW psG y76 b88 c12 b104 c14 ax109 rsG k12 cp110 ax113 qsG k14 cp114 aP cP),(En z c b11 cH h0),(Be z 44 3 Au.cells wsG),(Be z 44 3 Au.cells spG),(EZ z aC cC csG),(EN z aW wsG cW),(Be z 49 4 A8.cells rsG),(Be z 57 2 Bh.cells qsG),(Ji z psG aP cP),(NJ z y76 b88 c12 ax109 rsG k12 cp110),(OE z y76 b104 c14 ax113 qsG k14 cp114),(Me y76 n66),(NI z y76 b88 c12 k12),(P7 z y76 b104 c14 k14),(NH y76 b88 c12 k12 n107),(OH y76 b104 c14 k14 n111)]⟩ rfl ⟨rfl,Ae⟩ ?_
   refine SN (base:=z) (e:=49) (sz:=4) (cells:=A8.cells) (a:=(some ⟨b88,0,none⟩)) (n:=((Eg Ez ⟨0,0,0,0⟩ (y76.Af.xs.length+24) k12).length)) (cap:=c12) (xs:=(y76.Af.xs++(Eg Ez ⟨0,0,0,0⟩ (y76.Af.xs.length+24) k12).drop y76.Af.xs.length)) 15 (by first | rfl | (simp only[Gg,List.length_append,List.length_drop,List.length_map,List.length_range];omega)) (fun hcap117 => ?_)
   (try simp only[Gg,List.length_map,List.length_range]at hcap117)
   refine q_c 4 0 [] [[o0,o0,(a1 14),o0,⟨.slc 0 y76.Af.xs.length false,none⟩,o0,(a1 14)]] [Qb n66,(0:Int)=((0:Nat):Int),(y76.Af.xs.length:Int)=(y76.Af.xs.length:Int),0≤y76.Af.xs.length,y76.Af.xs.length≤c12,c12=0∨(0:Nat)=0,Qb n66] [(1,pt z),(C9 z),(CB z),(9,Ac p),(Hr n66),(Uj y76 b104 c14 k14)] ⟨w,n115,[(Ak w),(DT z c),(DX z),(Xz z c aC cC b11 cH h0 csG aW wsG cW psG y76 b88 c12 b104 c14 ax109 rsG k12 cp110 ax113 qsG k14 cp114 aP cP),(En z c b11 cH h0),(Be z 44 3 Au.cells wsG),(Be z 44 3 Au.cells spG),(EZ z aC cC csG),(EN z aW wsG cW),(Be z 49 4 A8.cells rsG),(Be z 57 2 Bh.cells qsG),(Ji z psG aP cP),(NJ z y76 b88 c12 ax109 rsG k12 cp110),(OE z y76 b104 c14 ax113 qsG k14 cp114),(bk n66 #[.string y76.Name,i6 y76.Entry,i6 y76.DK,i6 y76.AY,i6 y76.DI,i6 y76.Bi,.slice (some ⟨b88,0,none⟩) (y76.Af.xs.length - 0) (c12 - 0),.slice y76.Am.a y76.Am.xs.length y76.Am.cap] 41),(NI z y76 b88 c12 k12),(P7 z y76 b104 c14 k14),(NH y76 b88 c12 k12 n107),(OH y76 b104 c14 k14 n111)]⟩ rfl ⟨rfl,rfl,rfl,(by omega),(by omega),.inr rfl,rfl,Ae⟩ ?_
   refine SN (base:=z) (e:=57) (sz:=2) (cells:=Bh.cells) (a:=(some ⟨b104,0,none⟩)) (n:=((Eg EG ⟨0,false⟩ (y76.Am.xs.length+24) k14).length)) (cap:=c14) (xs:=(y76.Am.xs++(Eg EG ⟨0,false⟩ (y76.Am.xs.length+24) k14).drop y76.Am.xs.length)) 16 (by first | rfl | (simp only[Gg,List.length_append,List.length_drop,List.length_map,List.length_range];omega)) (fun hcap118 => ?_)
   (try simp only[Gg,List.length_map,List.length_range]at hcap118)
   refine q_c 4 4 [] [[o0,o0,(a1 14),o0,⟨.slc 0 y76.Am.xs.length false,none⟩,o0,(a1 14)],[o0,(a1 3),(an 8 14),o0]] [Qb n66,(0:Int)=((0:Nat):Int),(y76.Am.xs.length:Int)=(y76.Am.xs.length:Int),0≤y76.Am.xs.length,y76.Am.xs.length≤c14,c14=0∨(0:Nat)=0,Qb n66,Qb (z+2),Qb n66,Qb n66,Qb n66,Qb n66,Qb n66,Qb n66,Qb n66,Qb n66] [(1,pt z),(C9 z),(CB z),(9,Ac p),(204,.slice aP psG.length cP),(206,.slice (some ⟨n115,0,none⟩) 1 1)] ⟨w,n115+1,[(Ak w),(DT z c),(DX z),(Xz z c aC cC b11 cH h0 csG aW wsG cW psG y76 b88 c12 b104 c14 ax109 rsG k12 cp110 ax113 qsG k14 cp114 aP cP),(En z c b11 cH h0),(Be z 44 3 Au.cells wsG),(Be z 44 3 Au.cells spG),(EZ z aC cC csG),(EN z aW wsG cW),(Be z 49 4 A8.cells rsG),(Be z 57 2 Bh.cells qsG),(Ji z psG aP cP),(NJ z y76 b88 c12 ax109 rsG k12 cp110),(OE z y76 b104 c14 ax113 qsG k14 cp114),(QM y76 b88 c12 b104 c14 n66),(NI z y76 b88 c12 k12),(P7 z y76 b104 c14 k14),(NH y76 b88 c12 k12 n107),(OH y76 b104 c14 k14 n111),(Rx y76 b88 c12 b104 c14 n115)]⟩ rfl ⟨rfl,rfl,rfl,(by omega),(by omega),.inr rfl,rfl,rfl,rfl,rfl,rfl,rfl,rfl,rfl,rfl,rfl,Ae⟩ ?_
   refine QL z 11 19 psG [(⟨y76.Name,y76.Entry,y76.DK,y76.AY,y76.DI,y76.Bi,(⟨some ⟨b88,0,none⟩,c12 - 0,y76.Af.xs⟩:Sl A8),(⟨some ⟨b104,0,none⟩,c14 - 0,y76.Am.xs⟩:Sl Bh)⟩:Ap)] Ap.cells 41 8 104 (.slice aP psG.length cP) n115 1 1 #[.string y76.Name,i6 y76.Entry,i6 y76.DK,i6 y76.AY,i6 y76.DI,i6 y76.Bi,.slice (some ⟨b88,0,none⟩) (y76.Af.xs.length - 0) (c12 - 0),.slice (some ⟨b104,0,none⟩) (y76.Am.xs.length - 0) (c14 - 0)] 41 (0,0) true (some 207) (by(try simp only[List.length_cons,List.length_nil,List.length_map,List.length_range]);omega) (by(try simp only[List.length_cons,List.length_nil,List.length_map,List.length_range]);omega) (show z≤n115+1 by omega) (fun ax119 cp120 n121 (hn122:n115+1≤n121) => ?_)
   refine EY 5 0 [] [[o0,(a1 3)],[o0,(ov (i6 ((p+1:Nat):Int))),o0]] [Qb (z+2),Wr ((p:Int)+1) (((p+1:Nat):Int))] [(1,pt z),(C9 z),(CB z),(9,i6 ((p+1:Nat):Int))] ⟨w,n121,[(Ak w),(DT z c),(DX z),(TE z c aC cC b11 cH h0 csG aW wsG cW ax119 psG y76 b88 c12 b104 c14 cp120 ax109 rsG k12 cp110 ax113 qsG k14 cp114),(En z c b11 cH h0),(Be z 44 3 Au.cells wsG),(Be z 44 3 Au.cells spG),(EZ z aC cC csG),(EN z aW wsG cW),(Be z 49 4 A8.cells rsG),(Be z 57 2 Bh.cells qsG),(QK z ax119 psG y76 b88 c12 b104 c14 cp120),(NJ z y76 b88 c12 ax109 rsG k12 cp110),(OE z y76 b104 c14 ax113 qsG k14 cp114),(QM y76 b88 c12 b104 c14 n66),(NI z y76 b88 c12 k12),(P7 z y76 b104 c14 k14),(NH y76 b88 c12 k12 n107),(OH y76 b104 c14 k14 n111),(Rx y76 b88 c12 b104 c14 n115)]⟩ rfl ⟨rfl,BQ,Ae⟩ ?_
   refine e_eqA ⟨w,n121,[(Ak w),(DT z c),(DX z),(TE z c aC cC b11 cH h0 csG aW wsG cW ax119 psG y76 b88 c12 b104 c14 cp120 ax109 rsG k12 cp110 ax113 qsG k14 cp114),(En z c b11 cH h0),(Be z 44 3 Au.cells wsG),(Be z 44 3 Au.cells spG),(EZ z aC cC csG),(EN z aW wsG cW),(Be z 49 4 A8.cells rsG),(Be z 57 2 Bh.cells qsG),(QK z ax119 psG y76 b88 c12 b104 c14 cp120),(NJ z y76 b88 c12 ax109 rsG k12 cp110),(OE z y76 b104 c14 ax113 qsG k14 cp114),(QM y76 b88 c12 b104 c14 n66),(BJ z 49 4 A8.cells (.slice (some ⟨b88,0,none⟩) (((y76.Af.xs++(Eg Ez ⟨0,0,0,0⟩ (y76.Af.xs.length+24) k12).drop y76.Af.xs.length)).length) c12) (y76.Af.xs++(Eg Ez ⟨0,0,0,0⟩ (y76.Af.xs.length+24) k12).drop y76.Af.xs.length)),(P7 z y76 b104 c14 k14),(NH y76 b88 c12 k12 n107),(OH y76 b104 c14 k14 n111),(Rx y76 b88 c12 b104 c14 n115)]⟩ (by(try dsimp only[TE,Xz,LW,LV,Nz,Rx,QM,DX,NH,OH,Me,DT,QK,NJ,OE,NI,P7,En,QN,LY,EZ,EN,Jp,IZ,Ji,KZ,Uj,O4,Ql,C9,CB,Hr,MX]);have h9:(Eg Ez ⟨0,0,0,0⟩ (y76.Af.xs.length+24) k12).length=((y76.Af.xs++(Eg Ez ⟨0,0,0,0⟩ (y76.Af.xs.length+24) k12).drop y76.Af.xs.length)).length:=(by simp only[Gg,List.length_append,List.length_drop];omega);first | (rw[h9];done) | (rw[h9];rfl)) ?_
   refine Ua 9 15 [0,1,2,3,4,5,6,7,8,10,11,12,13,14,16,17,18,19] (a:=(some ⟨b88,0,none⟩)) (cap:=c12) (xs:=(y76.Af.xs++(Eg Ez ⟨0,0,0,0⟩ (y76.Af.xs.length+24) k12).drop y76.Af.xs.length)) [(Ak w),(DT z c),(DX z),(TE z c aC cC b11 cH h0 csG aW wsG cW ax119 psG y76 b88 c12 b104 c14 cp120 ax109 rsG k12 cp110 ax113 qsG k14 cp114),(En z c b11 cH h0),(Be z 44 3 Au.cells wsG),(Be z 44 3 Au.cells spG),(EZ z aC cC csG),(EN z aW wsG cW),(Be z 57 2 Bh.cells qsG),(QK z ax119 psG y76 b88 c12 b104 c14 cp120),(NJ z y76 b88 c12 ax109 rsG k12 cp110),(OE z y76 b104 c14 ax113 qsG k14 cp114),(QM y76 b88 c12 b104 c14 n66),(P7 z y76 b104 c14 k14),(NH y76 b88 c12 k12 n107),(OH y76 b104 c14 k14 n111),(Rx y76 b88 c12 b104 c14 n115)] ?_
   refine e_eqA ⟨w,n121,[(Ak w),(DT z c),(DX z),(TE z c aC cC b11 cH h0 csG aW wsG cW ax119 psG y76 b88 c12 b104 c14 cp120 ax109 rsG k12 cp110 ax113 qsG k14 cp114),(En z c b11 cH h0),(Be z 44 3 Au.cells wsG),(Be z 44 3 Au.cells spG),(EZ z aC cC csG),(EN z aW wsG cW),(Be z 57 2 Bh.cells qsG),(QK z ax119 psG y76 b88 c12 b104 c14 cp120),(NJ z y76 b88 c12 ax109 rsG k12 cp110),(OE z y76 b104 c14 ax113 qsG k14 cp114),(QM y76 b88 c12 b104 c14 n66),(BJ z 57 2 Bh.cells (.slice (some ⟨b104,0,none⟩) (((y76.Am.xs++(Eg EG ⟨0,false⟩ (y76.Am.xs.length+24) k14).drop y76.Am.xs.length)).length) c14) (y76.Am.xs++(Eg EG ⟨0,false⟩ (y76.Am.xs.length+24) k14).drop y76.Am.xs.length)),(NH y76 b88 c12 k12 n107),(OH y76 b104 c14 k14 n111),(Rx y76 b88 c12 b104 c14 n115),(Yc z y76 b88 c12 rsG k12)]⟩ (by(try dsimp only[TE,Xz,LW,LV,Nz,Rx,QM,DX,NH,OH,Me,DT,QK,NJ,OE,NI,P7,Yc,En,QN,LY,EZ,EN,Jp,IZ,Ji,KZ,Uj,O4,Ql,C9,CB,Hr,MX]);have h9:(Eg EG ⟨0,false⟩ (y76.Am.xs.length+24) k14).length=((y76.Am.xs++(Eg EG ⟨0,false⟩ (y76.Am.xs.length+24) k14).drop y76.Am.xs.length)).length:=(by simp only[Gg,List.length_append,List.length_drop];omega);first | (rw[h9];done) | (rw[h9];rfl)) ?_
   refine Ua 9 14 [0,1,2,3,4,5,6,7,8,10,11,12,13,15,16,17,18] (a:=(some ⟨b104,0,none⟩)) (cap:=c14) (xs:=(y76.Am.xs++(Eg EG ⟨0,false⟩ (y76.Am.xs.length+24) k14).drop y76.Am.xs.length)) [(Ak w),(DT z c),(DX z),(TE z c aC cC b11 cH h0 csG aW wsG cW ax119 psG y76 b88 c12 b104 c14 cp120 ax109 rsG k12 cp110 ax113 qsG k14 cp114),(En z c b11 cH h0),(Be z 44 3 Au.cells wsG),(Be z 44 3 Au.cells spG),(EZ z aC cC csG),(EN z aW wsG cW),(QK z ax119 psG y76 b88 c12 b104 c14 cp120),(NJ z y76 b88 c12 ax109 rsG k12 cp110),(OE z y76 b104 c14 ax113 qsG k14 cp114),(QM y76 b88 c12 b104 c14 n66),(NH y76 b88 c12 k12 n107),(OH y76 b104 c14 k14 n111),(Rx y76 b88 c12 b104 c14 n115),(Yc z y76 b88 c12 rsG k12)] ?_
   refine Cb [0,1,2,3,4,5,6,7,8,16,17,9,10,11] [(Ak w),(DT z c),(DX z),(TE z c aC cC b11 cH h0 csG aW wsG cW ax119 psG y76 b88 c12 b104 c14 cp120 ax109 rsG k12 cp110 ax113 qsG k14 cp114),(En z c b11 cH h0),(Be z 44 3 Au.cells wsG),(Be z 44 3 Au.cells spG),(EZ z aC cC csG),(EN z aW wsG cW),(Yc z y76 b88 c12 rsG k12),(Be z 57 2 Bh.cells (qsG++[⟨(some ⟨b104,0,none⟩),c14,(y76.Am.xs++(Eg EG ⟨0,false⟩ (y76.Am.xs.length+24) k14).drop y76.Am.xs.length)⟩])),(QK z ax119 psG y76 b88 c12 b104 c14 cp120),(NJ z y76 b88 c12 ax109 rsG k12 cp110),(OE z y76 b104 c14 ax113 qsG k14 cp114)] rfl rfl ?_
   refine BK [1,2,3,9] [(1,pt z),(C9 z),(CB z),(9,i6 ((p+1:Nat):Int))] ?_
   refine BD (fun a w' hs=>⟨(c.Aa.xs.length+24) - (p+1),by omega,n121,(p+1),(psG++[(⟨y76.Name,y76.Entry,y76.DK,y76.AY,y76.DI,y76.Bi,(⟨some ⟨b88,0,none⟩,c12 - 0,y76.Af.xs⟩:Sl A8),(⟨some ⟨b104,0,none⟩,c14 - 0,y76.Am.xs⟩:Sl Bh)⟩:Ap)]),(rsG++[(⟨some ⟨b88,0,none⟩,c12,(y76.Af.xs++(Eg Ez ⟨0,0,0,0⟩ (y76.Af.xs.length+24) k12).drop y76.Af.xs.length)⟩:Sl A8)]),(qsG++[(⟨some ⟨b104,0,none⟩,c14,(y76.Am.xs++(Eg EG ⟨0,false⟩ (y76.Am.xs.length+24) k14).drop y76.Am.xs.length)⟩:Sl Bh)]),ax119,cp120,ax109,cp110,ax113,cp114,rfl,by omega,by omega,prt_in hPr (by omega) hy76 (ZbX (by omega) (by omega)) (ZbX (by omega) (by omega)),hs⟩)
  refine Az 5 0 [1] [[o0,o0,(a1 1),o0,oT]] [Qb z,BT ((p:Int)≥(c.Aa.xs.length:Int))] [(1,pt z),(C9 z),(CB z),(9,Ac p),(126,.bool true)] rfl ⟨rfl,bt,Ae⟩ ?_
  refine Eh 7 [0,1,2,3,4,5,6,7,8,9,10,12,13] [(Ak w),(DT z c),(DX z),(LW z c aC cC b11 cH h0 csG aW wsG cW psG rsG qsG aP cP aR cR aQ cQ),(En z c b11 cH h0),(Be z 44 3 Au.cells wsG),(Be z 44 3 Au.cells spG),(EZ z aC cC csG),(EN z aW wsG cW),(Be z 49 4 A8.cells rsG),(Be z 57 2 Bh.cells qsG),(Jp z rsG aR cR),(IZ z qsG aQ cQ)] rfl rfl ?_
  refine JB [.tk 0 o0,.tk 1 (a1 3),.tk 2 o0,.cl 3 (.agg (Ap.arr (DV p)))] [1,2,3,9,128,130] [(18,#[(Ac p)],.agg (Ap.arr (DV p)))] (DF 4 4) [Qb (z+2)] [(1,pt z),(C9 z),(CB z),(9,Ac p),(128,.slice aP psG.length cP),(130,.agg (Ap.arr (DV p)))] [0,1,2,3,4,5,6,7,8,9,10,12,13] ⟨rfl,Ae⟩ ⟨fun w123 hw123=>ZcV w123 p (by omega),Ae⟩ (fun n124 hn125 => ?_)
  replace hn125:n66≤n124:=hn125
  refine BC 4 ?_
  refine BH o0 [1,2,3,9,128,131] [] [(1,pt z),(C9 z),(CB z),(9,Ac p),(128,.slice aP psG.length cP),(131,.slice (some ⟨n124,0,none⟩) 1 1)] ⟨w,n124+1,[(Ak w),(DT z c),(DX z),(LW z c aC cC b11 cH h0 csG aW wsG cW psG rsG qsG aP cP aR cR aQ cQ),(En z c b11 cH h0),(Be z 44 3 Au.cells wsG),(Be z 44 3 Au.cells spG),(EZ z aC cC csG),(EN z aW wsG cW),(Be z 49 4 A8.cells rsG),(Be z 57 2 Bh.cells qsG),(Ji z psG aP cP),(Jp z rsG aR cR),(IZ z qsG aQ cQ),(ZaO p n124)]⟩ [0,1,2,3,4,5,6,7,8,9,10,12,13] Ae (.inr rfl) ?_
  refine BC 5 ?_
  refine WN z 11 14 psG [(⟨(DV p).Name,(DV p).Entry,(DV p).DK,(DV p).AY,(DV p).DI,(DV p).Bi,(⟨(DV p).Af.a,(DV p).Af.cap,[]⟩:Sl A8),(⟨(DV p).Am.a,(DV p).Am.cap,[]⟩:Sl Bh)⟩:Ap)] Ap.cells 41 8 104 (.slice aP psG.length cP) n124 1 1 #[.string ((DV p).Name),i6 ((DV p).Entry),i6 ((DV p).DK),i6 ((DV p).AY),i6 ((DV p).DI),i6 ((DV p).Bi),.slice ((DV p).Af.a) ((DV p).Af.xs.length) ((DV p).Af.cap),.slice ((DV p).Am.a) ((DV p).Am.xs.length) ((DV p).Am.cap)] 41 (0,0) true (some 132) [0,1,2,3,4,5,6,7,8,9,10,12,13] (by(try simp only[List.length_cons,List.length_nil,List.length_map,List.length_range]);omega) (by(try simp only[List.length_cons,List.length_nil,List.length_map,List.length_range]);omega) (show z≤n124+1 by omega) (.inr ⟨rfl,rfl⟩) (fun ax126 cp127 n128 (hn129:n124+1≤n128) => ?_)
  refine DU [1,2,3,9,132] [(1,pt z),(C9 z),(CB z),(9,Ac p),(Zdq psG ax126 p cp127)] ?_
  refine Dj [(6,o0)] [1,2,3,9,132,133] [] (DF 7 1) [(1,pt z),(C9 z),(CB z),(9,Ac p),(Zdq psG ax126 p cp127),(133,.pointer (some ⟨z+2,10,none⟩))] Ae ?_
  refine BC 7 ?_
  refine BH (a1 3) [1,2,3,9] [Qb (z+2)] [(1,pt z),(C9 z),(CB z),(9,Ac p)] ⟨w,n128,[(Ak w),(DT z c),(DX z),(ZbN z c aC cC b11 cH h0 csG aW wsG cW psG rsG qsG ax126 p cp127 aR cR aQ cQ),(En z c b11 cH h0),(Be z 44 3 Au.cells wsG),(Be z 44 3 Au.cells spG),(EZ z aC cC csG),(EN z aW wsG cW),(Be z 49 4 A8.cells rsG),(Be z 57 2 Bh.cells qsG),(ZaA z psG ax126 p cp127),(Jp z rsG aR cR),(IZ z qsG aQ cQ),(ZaO p n124)]⟩ [] ⟨rfl,Ae⟩ (.inl rfl) ?_
  refine Es 8 [0,1,2,3,4,5,6,7,8,9,10,11,12,13,14] [(Ak w),(DT z c),(DX z),(ZbN z c aC cC b11 cH h0 csG aW wsG cW psG rsG qsG ax126 p cp127 aR cR aQ cQ),(En z c b11 cH h0),(Be z 44 3 Au.cells wsG),(Be z 44 3 Au.cells spG),(EZ z aC cC csG),(EN z aW wsG cW),(Be z 49 4 A8.cells rsG),(Be z 57 2 Bh.cells qsG),(ZaA z psG ax126 p cp127),(Jp z rsG aR cR),(IZ z qsG aQ cQ),(ZaO p n124)] rfl rfl ?_
  refine CU ?_
  refine Jw 7 0 [] [[o0,(ov (i6 ((p+1:Nat):Int))),o0]] [Wr ((p:Int)+1) (((p+1:Nat):Int))] [(1,pt z),(C9 z),(CB z),(9,i6 ((p+1:Nat):Int))] rfl ⟨BQ,Ae⟩ ?_
  refine Cb [0,1,2,3,4,5,6,7,8,9,10,11,12,13] [(Ak w),(DT z c),(DX z),(ZbN z c aC cC b11 cH h0 csG aW wsG cW psG rsG qsG ax126 p cp127 aR cR aQ cQ),(En z c b11 cH h0),(Be z 44 3 Au.cells wsG),(Be z 44 3 Au.cells spG),(EZ z aC cC csG),(EN z aW wsG cW),(Be z 49 4 A8.cells rsG),(Be z 57 2 Bh.cells qsG),(ZaA z psG ax126 p cp127),(Jp z rsG aR cR),(IZ z qsG aQ cQ)] rfl rfl ?_
  refine BK [1,2,3,9] [(1,pt z),(C9 z),(CB z),(9,i6 ((p+1:Nat):Int))] ?_
  refine BD (fun a w' hs=>⟨(c.Aa.xs.length+24) - (p+1),by omega,n128,(p+1),(psG++[(⟨(DV p).Name,(DV p).Entry,(DV p).DK,(DV p).AY,(DV p).DI,(DV p).Bi,(⟨(DV p).Af.a,(DV p).Af.cap,[]⟩:Sl A8),(⟨(DV p).Am.a,(DV p).Am.cap,[]⟩:Sl Bh)⟩:Ap)]),rsG,qsG,ax126,cp127,aR,cR,aQ,cQ,rfl,by omega,by omega,prt_out hPr (by omega),hs⟩)
 refine Az 10 0 [0] [[o0,o0,(a1 1),o0,(ov (i6 ((c.Aa.xs.length+24:Nat):Int))),oF]] [Qb z,Wr ((c.Aa.xs.length:Int)+24) (((c.Aa.xs.length+24:Nat):Int)),BF ((p:Int)<((c.Aa.xs.length+24:Nat):Int))] [(1,pt z),(C9 z),(CB z),(9,Ac p),(119,.bool false)] rfl ⟨rfl,BQ,bf,Ae⟩ ?_
 refine SN (base:=z) (e:=41) (sz:=8) (cells:=Ap.cells) (a:=aP) (n:=psG.length) (cap:=cP) (xs:=psG) 11 (by first | rfl | (simp only[Gg,List.length_append,List.length_drop,List.length_map,List.length_range];omega)) (fun hcap130 => ?_)
 (try simp only[Gg,List.length_map,List.length_range]at hcap130)
 refine q_c 8 0 [] [[o0,(a1 3),o0,(a1 1),o0,⟨.slc 0 c.Aa.xs.length false,none⟩,o0,o0,(a1 3)],[(an 13 3),(an 13 2)]] [Qb (z+2),Qb z,(0:Int)=((0:Nat):Int),(c.Aa.xs.length:Int)=(c.Aa.xs.length:Int),0≤c.Aa.xs.length,c.Aa.xs.length≤cP,cP=0∨(0:Nat)=0,Qb (z+2),Qb (z+2),Qb (z+2),Qb (z+2),Qb (z+2),Qb (z+2),Qb (z+2),Qb (z+2),Qb (z+2),Qb (z+2),Qb (z+2),Qb (z+2),Qb (z+2),Qb (z+2),Qb (z+1),Qb (z+1),Qb (z+1),Qb (z+1),Qb (z+1),Qb (z+1),Qb (z+1),Qb (z+1),Qb (z+1),Qb (z+1),Qb (z+1),Qb (z+1),Qb (z+1)] [(C9 z)] ⟨w,n66,[(Ak w),(DT z c),(bk (z+1) #[i6 c.Frames,i6 c.CJ,i6 c.Kernel,i6 c.Room,.slice aC (c.Aq.xs.length - 0) (cC - 0),.slice aP (c.Aa.xs.length - 0) (cP - 0),.slice (some ⟨b11,0,none⟩) (c.Ag.xs.length - 0) (cH - 0),.slice (some ⟨b11,0,none⟩) (((List.range h0).map DD).length) cH,.slice aC csG.length cC,.slice aW wsG.length cW,.slice aP psG.length cP,.slice aR rsG.length cR,.slice aQ qsG.length cQ] 30),(bk (z+2) #[i6 c.Frames,i6 c.CJ,i6 c.Kernel,i6 c.Room,.slice aC (c.Aq.xs.length - 0) (cC - 0),.slice aP (c.Aa.xs.length - 0) (cP - 0),.slice (some ⟨b11,0,none⟩) (c.Ag.xs.length - 0) (cH - 0),.slice (some ⟨b11,0,none⟩) (((List.range h0).map DD).length) cH,.slice aC csG.length cC,.slice aW wsG.length cW,.slice aP psG.length cP,.slice aR rsG.length cR,.slice aQ qsG.length cQ] 30),(En z c b11 cH h0),(Be z 44 3 Au.cells wsG),(Be z 44 3 Au.cells spG),(EZ z aC cC csG),(EN z aW wsG cW),(Be z 49 4 A8.cells rsG),(Be z 57 2 Bh.cells qsG),(Ji z psG aP cP),(Jp z rsG aR cR),(IZ z qsG aQ cQ)]⟩ rfl ⟨rfl,rfl,rfl,rfl,(by omega),(by omega),.inr rfl,rfl,rfl,rfl,rfl,rfl,rfl,rfl,rfl,rfl,rfl,rfl,rfl,rfl,rfl,rfl,rfl,rfl,rfl,rfl,rfl,rfl,rfl,rfl,rfl,rfl,rfl,rfl,Ae⟩ ?_
 refine AA [.at 2,.at 2,.at 2,.at 2,.at 2,.at 2,.at 2,.at 2,.at 2,.at 2,.at 2,.at 2,.at 2] [Qb (z+1),Qb (z+1),Qb (z+1),Qb (z+1),Qb (z+1),Qb (z+1),Qb (z+1),Qb (z+1),Qb (z+1),Qb (z+1),Qb (z+1),Qb (z+1),Qb (z+1)] (.agg #[i6 c.Frames,i6 c.CJ,i6 c.Kernel,i6 c.Room,.slice aC (c.Aq.xs.length - 0) (cC - 0),.slice aP (c.Aa.xs.length - 0) (cP - 0),.slice (some ⟨b11,0,none⟩) (c.Ag.xs.length - 0) (cH - 0),.slice (some ⟨b11,0,none⟩) (((List.range h0).map DD).length) cH,.slice aC csG.length cC,.slice aW wsG.length cW,.slice aP psG.length cP,.slice aR rsG.length cR,.slice aQ qsG.length cQ]) ⟨rfl,rfl,rfl,rfl,rfl,rfl,rfl,rfl,rfl,rfl,rfl,rfl,rfl,Ae⟩ ?_
 intro w131 hw131
 have hkH:h0=c.Ag.xs.length+24:=by omega
 have e1:(csG.take c.Aq.xs.length).length=c.Aq.xs.length:=by rw[List.length_take];omega
 have e2:(psG.take c.Aa.xs.length).length=c.Aa.xs.length:=by rw[List.length_take];omega
 have eH:((c.Ag.xs++((List.range h0).map DD).drop c.Ag.xs.length)).length=((List.range h0).map DD).length:=by simp only[List.length_append,List.length_drop,List.length_map,List.length_range];omega
 have hO:∃ w0,Sat ⟨w0,w131.heap.size,SG z (⟨⟨c.Frames,c.CJ,c.Kernel,c.Room,⟨aC,cC - 0,csG.take c.Aq.xs.length⟩,⟨aP,cP - 0,psG.take c.Aa.xs.length⟩,⟨(some ⟨b11,0,none⟩),cH - 0,c.Ag.xs⟩⟩,⟨(some ⟨b11,0,none⟩),cH,(c.Ag.xs++((List.range h0).map DD).drop c.Ag.xs.length)⟩,⟨aC,cC,csG⟩,⟨aW,cW,wsG⟩,⟨aP,cP,psG⟩,⟨aR,cR,rsG⟩,⟨aQ,cQ,qsG⟩⟩:Hf) spG⟩ w131:=⟨w,by
  have h4:=hw131.pick [4,7,8,5,6,11,12,9,13,10] rfl rfl
  rw[hw131.size]
  (try dsimp only[LW,LV,Nz,DX,DT,En,LY,EZ,EN,Jp,IZ,Ji,C9,CB,MX]at h4)
  rw[←eH]at h4
  exact h4⟩
 have hI:Oe c (⟨⟨c.Frames,c.CJ,c.Kernel,c.Room,⟨aC,cC - 0,csG.take c.Aq.xs.length⟩,⟨aP,cP - 0,psG.take c.Aa.xs.length⟩,⟨(some ⟨b11,0,none⟩),cH - 0,c.Ag.xs⟩⟩,⟨(some ⟨b11,0,none⟩),cH,(c.Ag.xs++((List.range h0).map DD).drop c.Ag.xs.length)⟩,⟨aC,cC,csG⟩,⟨aW,cW,wsG⟩,⟨aP,cP,psG⟩,⟨aR,cR,rsG⟩,⟨aQ,cQ,qsG⟩⟩:Hf) spG:=⟨⟨rfl,rfl,rfl,rfl⟩,by unfold wid;rw[←hkH],by rw[←show i=c.Aq.xs.length+24 from by omega];exact hCo,by rw[←show p=c.Aa.xs.length+24 from by omega];exact hPr,rfl,rfl,rfl⟩
 exact⟨_,_,congrArg (fun a=>Ending.returned (Value.agg a)) (by simp only[Hf.arr,Nat.sub_zero,e1,e2,eH]),hI,hz ▸ hO,AO hw131⟩
structure Hf.ok(F:Nat→Prop)(W:World)(x:Hf):Prop where
 C:Aj.ok F W x.C
 channels:Je AL.cells 3 AL.ok F W x.channels
 He:Je (fun x:Sl Au=>[Sl.val x]) 1 (fun F W x=>Je Au.cells 3 Au.ok F W x) F W x.He
 windows:Je (fun x:Sl Au=>[Sl.val x]) 1 (fun F W x=>Je Au.cells 3 Au.ok F W x) F W x.windows
 partitions:Je Ap.cells 8 Ap.ok F W x.partitions
 regions:Je (fun x:Sl A8=>[Sl.val x]) 1 (fun F W x=>Je A8.cells 4 A8.ok F W x) F W x.regions
 Gp:Je (fun x:Sl Bh=>[Sl.val x]) 1 (fun F W x=>Je Bh.cells 2 Bh.ok F W x) F W x.Gp
theorem Hf.ok.ext{F F':Nat→Prop}{W W':World}(he:Ext F W W')(hF:∀ b,F b→F' b){x:Hf}(h:Hf.ok F W x):Hf.ok F' W' x:=⟨h.C.ext he hF,IJ he hF h.channels (fun _ h=>AL.ok.ext he hF h),IJ he hF h.He (fun _ h=>IJ he hF h (fun _ h=>Au.ok.ext he hF h)),IJ he hF h.windows (fun _ h=>IJ he hF h (fun _ h=>Au.ok.ext he hF h)),IJ he hF h.partitions (fun _ h=>Ap.ok.ext he hF h),IJ he hF h.regions (fun _ h=>IJ he hF h (fun _ h=>A8.ok.ext he hF h)),IJ he hF h.Gp (fun _ h=>IJ he hF h (fun _ h=>Bh.ok.ext he hF h))⟩
theorem Wn{α:Type}[Inhabited α]{f:Nat→α}{xs:List α}{k:Nat}(h:k<xs.length):gd (wid f xs) k=gd xs k:=Om h
theorem VN{α:Type}[Inhabited α]{f:Nat→α}{xs:List α}{k:Nat}(h:xs.length≤k)(h2:k<xs.length+24):gd (wid f xs) k=f k:=by
 rw[F9 (by rw[Nc];exact h2)]
 unfold wid
 rw[List.getElem_append_right h,List.getElem_drop,List.getElem_map,List.getElem_range]
 congr 1;omega
theorem Yn{α:Type}[Inhabited α]{xs:List α}{n q:Nat}(h:q<n)(hq:q<xs.length):gd (xs.take n) q=gd xs q:=by
 rw[F9 (by rw[List.length_take];omega),F9 hq,List.getElem_take]
section
variable {c:Aj}{L:Hf}{sp:List (Sl Au)}
theorem WF(h:Oe c L sp):strip L.C=strip c:=by
 have l1:=h.Ry.l1
 have l2:=h.prt.l1
 refine ZcA h.nums ?_ ?_ ?_ (fun i hi => ?_) (fun i hi => ?_)
 ·rw[h.cC];show(List.take _ _).length=_;rw[List.length_take];omega
 ·rw[h.pC];show(List.take _ _).length=_;rw[List.length_take];omega
 ·rw[h.hC]
 ·rw[h.cC];show(gd (List.take c.Aq.xs.length L.He.xs) i).xs=_
  rw[Yn hi (by omega),h.Ry.c1 i (by omega) hi]
 rw[h.pC];show KP (gd (List.take c.Aa.xs.length L.partitions.xs) i)=_
 rw[Yn hi (by omega),h.prt.p1 i (by omega) hi];rfl
theorem Zdy(h:Oe c L sp):L.channels.xs.length=c.Ag.xs.length+24:=by rw[h.hx,Nc]
theorem lent_wl(h:Oe c L sp){i:Nat}(hi:i<c.Aq.xs.length):(gd L.windows.xs i).xs.length=(gd c.Aq.xs i).xs.length+24:=by rw[h.Ry.w1 i (by omega) hi,Nc]
theorem Zds(h:Oe c L sp){i:Nat}(hi:i<c.Aa.xs.length):(gd L.regions.xs i).xs.length=(gd c.Aa.xs i).Af.xs.length+24:=by rw[h.prt.r1 i (by omega) hi,Nc]
theorem Zdu(h:Oe c L sp){i:Nat}(hi:i<c.Aa.xs.length):(gd L.Gp.xs i).xs.length=(gd c.Aa.xs i).Am.xs.length+24:=by rw[h.prt.q1 i (by omega) hi,Nc]
theorem lent_sp(h:Oe c L sp){i:Nat}(h1:c.Aq.xs.length≤i)(h2:i<c.Aq.xs.length+24):(gd L.He.xs i).xs=[Dq i]:=by
 rw[h.Ry.c2 i h1 h2,h.Ry.s1 _ (by rw[h.Ry.l3];omega),show c.Aq.xs.length+(i - c.Aq.xs.length)=i from by omega]
theorem lent_pm(h:Oe c L sp){i:Nat}(h1:c.Aa.xs.length≤i)(h2:i<c.Aa.xs.length+24):gd L.partitions.xs i=DV i:=h.prt.p2 i h1 h2
end
section
variable (z:Nat)(p:Ap)(L:Hf)
abbrev LQ:=bk (z+1) (Ap.arr p) 41
abbrev LP:=bk z (Hf.arr L) 30
abbrev IC:=(5,pt (z+1))
end
theorem ZcY(w:World)(c:Aj)(L:Hf)(sp:List (Sl Au))(i:Nat)(p:Ap)(hL:Hf.ok Any w L)(hI:Oe c L sp)(hpo:Ap.ok Any w p)(hi:i<c.Aa.xs.length)(hp:p=gd c.Aa.xs i):Calls Tryd.prog 30 #[.agg (Hf.arr L),.int .i64 (i:Int),.agg (Ap.arr p)] w fun e w'=>e = .returned (.bool true)∧CP (fun _=>False) w w':=by
 obtain⟨z,hz⟩:∃ z,z=w.heap.size:=⟨_,rfl⟩
 refine CE (args:=[.agg (Hf.arr L),Ac i,.agg (Ap.arr p)]) 75 ⟨w,z,[(Ak w)]⟩ Tryd.func30 rfl (by kernel_rfl) (by kernel_rfl) (Ep hz) ?_
 have h2:=hI.prt.l2;have h3:=hI.prt.l3;have hb1:=hpo.Af.1.len;have hb2:=hpo.Am.1.len;have hb3:=hL.partitions.1.len;have hb4:=hI.prt.l1
 refine DC [0,1,2] [(0,.agg (Hf.arr L)),(1,Ac i),(2,.agg (Ap.arr p))] ?_
 refine q_c 10 0 [] [[o0,o0,o0],[o0]] [] [(1,Ac i),(3,pt z),(IC z),(7,i6 0)] ⟨w,z+2,[(Ak w),(LP z L),(LQ z p)]⟩ rfl Ae ?_
 refine Di (fun m a w'=>∃ (n2:Nat) (k:Nat),m=(p.Af.xs.length+24) - k∧z+2≤n2∧(k≤(p.Af.xs.length+24))∧St 75 [(1,Ac i),(3,pt z),(IC z),(7,Ac k)] [] ⟨w,n2,[(Ak w),(LP z L),(LQ z p)]⟩ a w') ((p.Af.xs.length+24) - 0) ?_ ?_
 ·intro a w' hs;exact⟨(z+2),0,rfl,Nat.le_refl _,Nat.zero_le _,hs⟩
 rintro m a w' ⟨n2,k,rfl,hn1,hkk,hs⟩
 refine(?_:G Tryd.prog 75 [(1,Ac i),(3,pt z),(IC z),(7,Ac k)] [] ⟨w,n2,[(Ak w),(LP z L),(LQ z p)]⟩ _ _ _) a w' hs
 clear hs a w'
 refine Ce <| Ce ?_
 obtain⟨b3,o4,ha5,hF7,hc6⟩:=(hL.regions).1.all (show 0<L.regions.xs.length by omega)
 replace ha5:L.regions.a=some ⟨b3,o4,none⟩:=ha5
 have hc8:=hc6 i (show i<L.regions.xs.length by omega)
 have he9:=(hL.regions).2 i (show i<L.regions.xs.length by omega)
 obtain⟨y10,hy10⟩:∃ y_,y_=gd L.regions.xs i:=⟨_,rfl⟩
 rw[←hy10]at he9 hc8
 have hlry10:=Zds hI hi;rw[←hy10,←hp]at hlry10
 by_cases h11:(k:Int)<(y10.xs.length:Int)
 ·refine Az 10 1 [1] [[o0,o0,(DN 1 b3 o4 L.regions),o0,(oi i),(oa [.via 0 (.slice y10.a y10.xs.length y10.cap)]),o0,oT],[o0]] [Qb z,Dh b3 o4 L.regions,Ci i,i<L.regions.xs.length,BN,Old w b3 (o4+i) (.slice y10.a y10.xs.length y10.cap),BT ((k:Int)<(y10.xs.length:Int))] [(1,Ac i),(3,pt z),(IC z),(7,Ac k),(21,Ac k)] rfl ⟨rfl,Df ha5,rfl,(by omega),rfl,A7 (hc8 0 _ rfl),bt,Ae⟩ ?_
  refine Bf 19 #[(Ac k)] (some 22) (.agg (A8.arr (Ez k))) (fun w12 hw12=>YS w12 k (by omega)) (fun n13 (hn14:n2≤n13) => ?_)
  refine EY 4 0 [] [[o0,(an 4 3)]] [Qb n13,Qb n13,Qb n13,Qb n13] [(1,Ac i),(3,pt z),(IC z),(7,Ac k),(8,pt n13)] ⟨w,n13+1,[(Ak w),(LP z L),(LQ z p),(bk n13 (A8.arr (Ez k)) 49)]⟩ rfl ⟨rfl,rfl,rfl,rfl,Ae⟩ ?_
  by_cases h15:(k:Int)<(p.Af.xs.length:Int)
  ·refine Az 4 0 [1] [[o0,o0,(a1 2),o0,oT]] [Qb (z+1),BT ((k:Int)<(p.Af.xs.length:Int))] [(1,Ac i),(3,pt z),(IC z),(7,Ac k),(8,pt n13),(27,.bool true)] rfl ⟨rfl,bt,Ae⟩ ?_
   obtain⟨b16,o17,ha18,hF20,hc19⟩:=(hpo.Af).1.all (show 0<p.Af.xs.length by omega)
   replace ha18:p.Af.a=some ⟨b16,o17,none⟩:=ha18
   have hc21:=hc19 k (show k<p.Af.xs.length by omega)
   have he22:=(hpo.Af).2 k (show k<p.Af.xs.length by omega)
   obtain⟨y23,hy23⟩:∃ y_,y_=gd p.Af.xs k:=⟨_,rfl⟩
   rw[←hy23]at he22 hc21
   refine q_c 4 0 [] [[o0,(DN 2 b16 o17 p.Af),o0,(oi k),(ol 0 (A8.arr y23)),(an 4 3)]] [Qb (z+1),Dh b16 o17 p.Af,Ci k,k<p.Af.xs.length,BN,Fa w b16 (o17+k*4) (A8.arr y23),Qb n13,Qb n13,Qb n13,Qb n13] [(1,Ac i),(3,pt z),(IC z),(7,Ac k),(8,pt n13)] ⟨w,n13+1,[(Ak w),(LP z L),(LQ z p),(bk n13 (A8.arr y23) 49)]⟩ rfl ⟨rfl,Df ha18,rfl,(by omega),rfl,Dt hc21,rfl,rfl,rfl,rfl,Ae⟩ ?_
   obtain⟨b24,o25,ha26,hF28,hc27⟩:=(he9).1.all (show 0<y10.xs.length by omega)
   replace ha26:y10.a=some ⟨b24,o25,none⟩:=ha26
   have hc29:=hc27 k (show k<y10.xs.length by omega)
   have he30:=(he9).2 k (show k<y10.xs.length by omega)
   obtain⟨y31,hy31⟩:∃ y_,y_=gd y10.xs k:=⟨_,rfl⟩
   rw[←hy31]at he30 hc29
   have hpey31:y31=y23:=by rw[hy31,hy23,show y10.xs=wid Ez p.Af.xs from(by rw[hy10,hp];exact hI.prt.r1 i (by omega) hi),Wn (by omega)]
   refine Eh 10 [0,1,2,3] [(Ak w),(LP z L),(LQ z p),(bk n13 (A8.arr y23) 49)] rfl rfl ?_
   refine Dj [(0,o0),(1,(DN 1 b3 o4 L.regions)),(2,o0),(3,(oi i)),(4,⟨.auto [.via 0 (.slice y10.a y10.xs.length y10.cap)],some (.slice (some ⟨b24,o25,none⟩) y10.xs.length y10.cap)⟩),(5,o0),(6,(oi k)),(7,(ol 0 (A8.arr y31))),(8,(an 4 3)),(9,⟨.seq true,none⟩)] [1,3,5,7,42] [Qb z,Dh b3 o4 L.regions,Ci i,i<L.regions.xs.length,BN,Old w b3 (o4+i) (.slice y10.a y10.xs.length y10.cap),Dh b24 o25 y10,Ci k,k<y10.xs.length,BN,Fa w b24 (o25+k*4) (A8.arr y31),Qb n13,Qb n13,Qb n13,Qb n13,((y31.Bj:Int)==(y23.Bj:Int)&&((y31.AV:Int)==(y23.AV:Int)&&((y31.Frame:Int)==(y23.Frame:Int)&&((y31.GM:Int)==(y23.GM:Int)&&true))))=true] (DF 10 0) [(1,Ac i),(3,pt z),(IC z),(7,Ac k),(42,.bool false)] ⟨rfl,Df ha5,rfl,(by omega),rfl,A7 (hc8 0 _ rfl),Df ha26,rfl,(by omega),rfl,Dt hc29,rfl,rfl,rfl,rfl,(by rw[hpey31];simp[DD,Dq,Ez,EG]),Ae⟩ ?_
   refine CU ?_
   refine Jw 7 0 [0] [[o0,(ov (i6 ((k+1:Nat):Int))),o0]] [Wr ((k:Int)+1) (((k+1:Nat):Int))] [(1,Ac i),(3,pt z),(IC z),(7,i6 ((k+1:Nat):Int))] rfl ⟨BQ,Ae⟩ ?_
   refine Cb [0,1,2] [(Ak w),(LP z L),(LQ z p)] rfl rfl ?_
   refine BK [1,3,5,7] [(1,Ac i),(3,pt z),(IC z),(7,i6 ((k+1:Nat):Int))] ?_
   refine BD (fun a w' hs=>⟨(p.Af.xs.length+24) - (k+1),by omega,(n13+1),(k+1),rfl,by omega,by omega,hs⟩)
  refine Az 7 0 [0] [[o0,o0,(a1 2),o0,oF]] [Qb (z+1),BF ((k:Int)<(p.Af.xs.length:Int))] [(1,Ac i),(3,pt z),(IC z),(7,Ac k),(8,pt n13),(27,.bool false)] rfl ⟨rfl,bf,Ae⟩ ?_
  obtain⟨b32,o33,ha34,hF36,hc35⟩:=(he9).1.all (show 0<y10.xs.length by omega)
  replace ha34:y10.a=some ⟨b32,o33,none⟩:=ha34
  have hc37:=hc35 k (show k<y10.xs.length by omega)
  have he38:=(he9).2 k (show k<y10.xs.length by omega)
  obtain⟨y39,hy39⟩:∃ y_,y_=gd y10.xs k:=⟨_,rfl⟩
  rw[←hy39]at he38 hc37
  try have hpey39:y39=Ez k:=by rw[hy39,show y10.xs=wid Ez p.Af.xs from(by rw[hy10,hp];exact hI.prt.r1 i (by omega) hi),VN (by omega) (by omega)]
  refine Eh 10 [0,1,2,3] [(Ak w),(LP z L),(LQ z p),(bk n13 (A8.arr (Ez k)) 49)] rfl rfl ?_
  refine Dj [(0,o0),(1,(DN 1 b3 o4 L.regions)),(2,o0),(3,(oi i)),(4,⟨.auto [.via 0 (.slice y10.a y10.xs.length y10.cap)],some (.slice (some ⟨b32,o33,none⟩) y10.xs.length y10.cap)⟩),(5,o0),(6,(oi k)),(7,(ol 0 (A8.arr y39))),(8,(an 4 3)),(9,⟨.seq true,none⟩)] [1,3,5,7,42] [Qb z,Dh b3 o4 L.regions,Ci i,i<L.regions.xs.length,BN,Old w b3 (o4+i) (.slice y10.a y10.xs.length y10.cap),Dh b32 o33 y10,Ci k,k<y10.xs.length,BN,Fa w b32 (o33+k*4) (A8.arr y39),Qb n13,Qb n13,Qb n13,Qb n13,((y39.Bj:Int)==((Ez k).Bj:Int)&&((y39.AV:Int)==((Ez k).AV:Int)&&((y39.Frame:Int)==((Ez k).Frame:Int)&&((y39.GM:Int)==((Ez k).GM:Int)&&true))))=true] (DF 10 0) [(1,Ac i),(3,pt z),(IC z),(7,Ac k),(42,.bool false)] ⟨rfl,Df ha5,rfl,(by omega),rfl,A7 (hc8 0 _ rfl),Df ha34,rfl,(by omega),rfl,Dt hc37,rfl,rfl,rfl,rfl,(by rw[hpey39];simp[DD,Dq,Ez,EG]),Ae⟩ ?_
  refine CU ?_
  refine Jw 7 0 [0] [[o0,(ov (i6 ((k+1:Nat):Int))),o0]] [Wr ((k:Int)+1) (((k+1:Nat):Int))] [(1,Ac i),(3,pt z),(IC z),(7,i6 ((k+1:Nat):Int))] rfl ⟨BQ,Ae⟩ ?_
  refine Cb [0,1,2] [(Ak w),(LP z L),(LQ z p)] rfl rfl ?_
  refine BK [1,3,5,7] [(1,Ac i),(3,pt z),(IC z),(7,i6 ((k+1:Nat):Int))] ?_
  refine BD (fun a w' hs=>⟨(p.Af.xs.length+24) - (k+1),by omega,(n13+1),(k+1),rfl,by omega,by omega,hs⟩)
 refine Az 15 0 [0] [[o0,o0,(DN 1 b3 o4 L.regions),o0,(oi i),(oa [.via 0 (.slice y10.a y10.xs.length y10.cap)]),o0,oF],[o0]] [Qb z,Dh b3 o4 L.regions,Ci i,i<L.regions.xs.length,BN,Old w b3 (o4+i) (.slice y10.a y10.xs.length y10.cap),BF ((k:Int)<(y10.xs.length:Int))] [(1,Ac i),(3,pt z),(IC z),(9,i6 0)] rfl ⟨rfl,Df ha5,rfl,(by omega),rfl,A7 (hc8 0 _ rfl),bf,Ae⟩ ?_
 refine Di (fun m a w'=>∃ (n41:Nat) (j:Nat),m=(p.Am.xs.length+24) - j∧n2≤n41∧(j≤(p.Am.xs.length+24))∧St 75 [(1,Ac i),(3,pt z),(IC z),(9,Ac j)] [] ⟨w,n41,[(Ak w),(LP z L),(LQ z p)]⟩ a w') ((p.Am.xs.length+24) - 0) ?_ ?_
 ·intro a w' hs;exact⟨n2,0,rfl,Nat.le_refl _,Nat.zero_le _,hs⟩
 rintro m a w' ⟨n41,j,rfl,hn40,hkj,hs⟩
 refine(?_:G Tryd.prog 75 [(1,Ac i),(3,pt z),(IC z),(9,Ac j)] [] ⟨w,n41,[(Ak w),(LP z L),(LQ z p)]⟩ _ _ _) a w' hs
 clear hs a w'
 refine Ce <| Ce ?_
 obtain⟨b42,o43,ha44,hF46,hc45⟩:=(hL.Gp).1.all (show 0<L.Gp.xs.length by omega)
 replace ha44:L.Gp.a=some ⟨b42,o43,none⟩:=ha44
 have hc47:=hc45 i (show i<L.Gp.xs.length by omega)
 have he48:=(hL.Gp).2 i (show i<L.Gp.xs.length by omega)
 obtain⟨y49,hy49⟩:∃ y_,y_=gd L.Gp.xs i:=⟨_,rfl⟩
 rw[←hy49]at he48 hc47
 have hlqy49:=Zdu hI hi;rw[←hy49,←hp]at hlqy49
 by_cases h50:(j:Int)<(y49.xs.length:Int)
 ·refine Az 10 1 [1] [[o0,o0,(DN 1 b42 o43 L.Gp),o0,(oi i),(oa [.via 0 (.slice y49.a y49.xs.length y49.cap)]),o0,oT],[o0]] [Qb z,Dh b42 o43 L.Gp,Ci i,i<L.Gp.xs.length,BN,Old w b42 (o43+i) (.slice y49.a y49.xs.length y49.cap),BT ((j:Int)<(y49.xs.length:Int))] [(1,Ac i),(3,pt z),(IC z),(9,Ac j),(53,Ac j)] rfl ⟨rfl,Df ha44,rfl,(by omega),rfl,A7 (hc47 0 _ rfl),bt,Ae⟩ ?_
  refine Bf 20 #[(Ac j)] (some 54) (.agg (Bh.arr (EG j))) (fun w51 hw51=>YP w51 j (by omega)) (fun n52 (hn53:n41≤n52) => ?_)
  refine EY 4 0 [] [[o0,(an 2 3)]] [Qb n52,Qb n52] [(1,Ac i),(3,pt z),(IC z),(9,Ac j),(10,pt n52)] ⟨w,n52+1,[(Ak w),(LP z L),(LQ z p),(bk n52 (Bh.arr (EG j)) 57)]⟩ rfl ⟨rfl,rfl,Ae⟩ ?_
  by_cases h54:(j:Int)<(p.Am.xs.length:Int)
  ·refine Az 4 0 [1] [[o0,o0,(a1 2),o0,oT]] [Qb (z+1),BT ((j:Int)<(p.Am.xs.length:Int))] [(1,Ac i),(3,pt z),(IC z),(9,Ac j),(10,pt n52),(59,.bool true)] rfl ⟨rfl,bt,Ae⟩ ?_
   obtain⟨b55,o56,ha57,hF59,hc58⟩:=(hpo.Am).1.all (show 0<p.Am.xs.length by omega)
   replace ha57:p.Am.a=some ⟨b55,o56,none⟩:=ha57
   have hc60:=hc58 j (show j<p.Am.xs.length by omega)
   have he61:=(hpo.Am).2 j (show j<p.Am.xs.length by omega)
   obtain⟨y62,hy62⟩:∃ y_,y_=gd p.Am.xs j:=⟨_,rfl⟩
   rw[←hy62]at he61 hc60
   refine q_c 4 0 [] [[o0,(DN 2 b55 o56 p.Am),o0,(oi j),(ol 0 (Bh.arr y62)),(an 2 3)]] [Qb (z+1),Dh b55 o56 p.Am,Ci j,j<p.Am.xs.length,BN,Fa w b55 (o56+j*2) (Bh.arr y62),Qb n52,Qb n52] [(1,Ac i),(3,pt z),(IC z),(9,Ac j),(10,pt n52)] ⟨w,n52+1,[(Ak w),(LP z L),(LQ z p),(bk n52 (Bh.arr y62) 57)]⟩ rfl ⟨rfl,Df ha57,rfl,(by omega),rfl,Dt hc60,rfl,rfl,Ae⟩ ?_
   obtain⟨b63,o64,ha65,hF67,hc66⟩:=(he48).1.all (show 0<y49.xs.length by omega)
   replace ha65:y49.a=some ⟨b63,o64,none⟩:=ha65
   have hc68:=hc66 j (show j<y49.xs.length by omega)
   have he69:=(he48).2 j (show j<y49.xs.length by omega)
   obtain⟨y70,hy70⟩:∃ y_,y_=gd y49.xs j:=⟨_,rfl⟩
   rw[←hy70]at he69 hc68
   have hpey70:y70=y62:=by rw[hy70,hy62,show y49.xs=wid EG p.Am.xs from(by rw[hy49,hp];exact hI.prt.q1 i (by omega) hi),Wn (by omega)]
   refine Eh 10 [0,1,2,3] [(Ak w),(LP z L),(LQ z p),(bk n52 (Bh.arr y62) 57)] rfl rfl ?_
   refine Dj [(0,o0),(1,(DN 1 b42 o43 L.Gp)),(2,o0),(3,(oi i)),(4,⟨.auto [.via 0 (.slice y49.a y49.xs.length y49.cap)],some (.slice (some ⟨b63,o64,none⟩) y49.xs.length y49.cap)⟩),(5,o0),(6,(oi j)),(7,(ol 0 (Bh.arr y70))),(8,(an 2 3)),(9,⟨.seq true,none⟩)] [1,3,5,9,74] [Qb z,Dh b42 o43 L.Gp,Ci i,i<L.Gp.xs.length,BN,Old w b42 (o43+i) (.slice y49.a y49.xs.length y49.cap),Dh b63 o64 y49,Ci j,j<y49.xs.length,BN,Fa w b63 (o64+j*2) (Bh.arr y70),Qb n52,Qb n52,((y70.Channel:Int)==(y62.Channel:Int)&&(y70.Source==y62.Source&&true))=true] (DF 10 0) [(1,Ac i),(3,pt z),(IC z),(9,Ac j),(74,.bool false)] ⟨rfl,Df ha44,rfl,(by omega),rfl,A7 (hc47 0 _ rfl),Df ha65,rfl,(by omega),rfl,Dt hc68,rfl,rfl,(by rw[hpey70];simp[DD,Dq,Ez,EG]),Ae⟩ ?_
   refine CU ?_
   refine Jw 7 0 [0] [[o0,(ov (i6 ((j+1:Nat):Int))),o0]] [Wr ((j:Int)+1) (((j+1:Nat):Int))] [(1,Ac i),(3,pt z),(IC z),(9,i6 ((j+1:Nat):Int))] rfl ⟨BQ,Ae⟩ ?_
   refine Cb [0,1,2] [(Ak w),(LP z L),(LQ z p)] rfl rfl ?_
   refine BK [1,3,5,9] [(1,Ac i),(3,pt z),(IC z),(9,i6 ((j+1:Nat):Int))] ?_
   refine BD (fun a w' hs=>⟨(p.Am.xs.length+24) - (j+1),by omega,(n52+1),(j+1),rfl,by omega,by omega,hs⟩)
  refine Az 7 0 [0] [[o0,o0,(a1 2),o0,oF]] [Qb (z+1),BF ((j:Int)<(p.Am.xs.length:Int))] [(1,Ac i),(3,pt z),(IC z),(9,Ac j),(10,pt n52),(59,.bool false)] rfl ⟨rfl,bf,Ae⟩ ?_
  obtain⟨b71,o72,ha73,hF75,hc74⟩:=(he48).1.all (show 0<y49.xs.length by omega)
  replace ha73:y49.a=some ⟨b71,o72,none⟩:=ha73
  have hc76:=hc74 j (show j<y49.xs.length by omega)
  have he77:=(he48).2 j (show j<y49.xs.length by omega)
  obtain⟨y78,hy78⟩:∃ y_,y_=gd y49.xs j:=⟨_,rfl⟩
  rw[←hy78]at he77 hc76
  try have hpey78:y78=EG j:=by rw[hy78,show y49.xs=wid EG p.Am.xs from(by rw[hy49,hp];exact hI.prt.q1 i (by omega) hi),VN (by omega) (by omega)]
  refine Eh 10 [0,1,2,3] [(Ak w),(LP z L),(LQ z p),(bk n52 (Bh.arr (EG j)) 57)] rfl rfl ?_
  refine Dj [(0,o0),(1,(DN 1 b42 o43 L.Gp)),(2,o0),(3,(oi i)),(4,⟨.auto [.via 0 (.slice y49.a y49.xs.length y49.cap)],some (.slice (some ⟨b71,o72,none⟩) y49.xs.length y49.cap)⟩),(5,o0),(6,(oi j)),(7,(ol 0 (Bh.arr y78))),(8,(an 2 3)),(9,⟨.seq true,none⟩)] [1,3,5,9,74] [Qb z,Dh b42 o43 L.Gp,Ci i,i<L.Gp.xs.length,BN,Old w b42 (o43+i) (.slice y49.a y49.xs.length y49.cap),Dh b71 o72 y49,Ci j,j<y49.xs.length,BN,Fa w b71 (o72+j*2) (Bh.arr y78),Qb n52,Qb n52,((y78.Channel:Int)==((EG j).Channel:Int)&&(y78.Source==(EG j).Source&&true))=true] (DF 10 0) [(1,Ac i),(3,pt z),(IC z),(9,Ac j),(74,.bool false)] ⟨rfl,Df ha44,rfl,(by omega),rfl,A7 (hc47 0 _ rfl),Df ha73,rfl,(by omega),rfl,Dt hc76,rfl,rfl,(by rw[hpey78];simp[DD,Dq,Ez,EG]),Ae⟩ ?_
  refine CU ?_
  refine Jw 7 0 [0] [[o0,(ov (i6 ((j+1:Nat):Int))),o0]] [Wr ((j:Int)+1) (((j+1:Nat):Int))] [(1,Ac i),(3,pt z),(IC z),(9,i6 ((j+1:Nat):Int))] rfl ⟨BQ,Ae⟩ ?_
  refine Cb [0,1,2] [(Ak w),(LP z L),(LQ z p)] rfl rfl ?_
  refine BK [1,3,5,9] [(1,Ac i),(3,pt z),(IC z),(9,i6 ((j+1:Nat):Int))] ?_
  refine BD (fun a w' hs=>⟨(p.Am.xs.length+24) - (j+1),by omega,(n52+1),(j+1),rfl,by omega,by omega,hs⟩)
 refine Az 14 0 [0] [[o0,o0,(DN 1 b42 o43 L.Gp),o0,(oi i),(oa [.via 0 (.slice y49.a y49.xs.length y49.cap)]),o0,oF],[o0]] [Qb z,Dh b42 o43 L.Gp,Ci i,i<L.Gp.xs.length,BN,Old w b42 (o43+i) (.slice y49.a y49.xs.length y49.cap),BF ((j:Int)<(y49.xs.length:Int))] [(6,.bool true)] rfl ⟨rfl,Df ha44,rfl,(by omega),rfl,A7 (hc47 0 _ rfl),bf,Ae⟩ ?_
 refine AA [] [] (.bool true) Ae ?_
 intro w79 hw79
 exact⟨rfl,AO hw79⟩
section
variable (z:Nat)(c:Aj)(L:Hf)
abbrev Jf:=bk (z+1) (Aj.arr c) 26
abbrev Jg:=bk z (Hf.arr L) 30
abbrev Fj:=(3,pt (z+1))
end
theorem kept_calls(w:World)(c:Aj)(L:Hf)(sp:List (Sl Au))(hL:Hf.ok Any w L)(hI:Oe c L sp)(hc:Aj.ok Any w c):Calls Tryd.prog 10 #[.agg (Hf.arr L),.agg (Aj.arr c)] w fun e w'=>e = .returned (.bool true)∧CP (fun _=>False) w w':=by
 obtain⟨z,hz⟩:∃ z,z=w.heap.size:=⟨_,rfl⟩
 refine CE (args:=[.agg (Hf.arr L),.agg (Aj.arr c)]) 187 ⟨w,z,[(Ak w)]⟩ Tryd.func10 rfl (by kernel_rfl) (by kernel_rfl) (Ep hz) ?_
 have h1:=hI.Ry.l1;have h2:=hI.Ry.l2;have h3:=hI.Ry.l3;have h4:=hI.prt.l1;have hhl:=Zdy hI;have hb1:=hL.He.1.len;have hb2:=hL.partitions.1.len;have hb3:=hL.channels.1.len
 refine DC [0,1] [(0,.agg (Hf.arr L)),(1,.agg (Aj.arr c))] ?_
 refine q_c 7 3 [] [[o0,o0,o0],[o0,(an 7 1),(an 7 2)]] [Qb z,Qb z,Qb z,Qb z,Qb z,Qb z,Qb z,Qb (z+1),Qb (z+1),Qb (z+1),Qb (z+1),Qb (z+1),Qb (z+1),Qb (z+1)] [(2,pt z),(Fj z),(14,.agg #[i6 L.C.Frames,i6 L.C.CJ,i6 L.C.Kernel,i6 L.C.Room,.slice L.C.Aq.a L.C.Aq.xs.length L.C.Aq.cap,.slice L.C.Aa.a L.C.Aa.xs.length L.C.Aa.cap,.slice L.C.Ag.a L.C.Ag.xs.length L.C.Ag.cap]),(15,.agg (Aj.arr c))] ⟨w,z+2,[(Ak w),(Jg z L),(Jf z c)]⟩ rfl ⟨rfl,rfl,rfl,rfl,rfl,rfl,rfl,rfl,rfl,rfl,rfl,rfl,rfl,rfl,Ae⟩ ?_
 refine l_call [] [] 29 #[.agg #[i6 L.C.Frames,i6 L.C.CJ,i6 L.C.Kernel,i6 L.C.Room,.slice L.C.Aq.a L.C.Aq.xs.length L.C.Aq.cap,.slice L.C.Aa.a L.C.Aa.xs.length L.C.Aa.cap,.slice L.C.Ag.a L.C.Ag.xs.length L.C.Ag.cap],.agg (Aj.arr c)] (some 16) Ae ?_
 intro w1 hw1
 refine(same_yes w1 L.C c (hL.C.ext (hw1.ext rfl) (fun _ h=>h)) (hc.ext (hw1.ext rfl) (fun _ h=>h)) (WF hI)).mono ?_
 rintro e w2 ⟨rfl,hkw2⟩
 have hnw2:z+2≤w2.heap.size:=Fg hw1 hkw2
 refine⟨_,_,rfl,hw1.keeps hkw2, ?_⟩
 refine BP 11 0 [0] [[o0],[o0]] [] [(2,pt z),(Fj z),(5,i6 0)] rfl Ae ?_
 refine Di (fun m a w'=>∃ (n4:Nat) (h0:Nat),m=(c.Ag.xs.length+24) - h0∧w2.heap.size≤n4∧(h0≤(c.Ag.xs.length+24))∧St 187 [(2,pt z),(Fj z),(5,Ac h0)] [] ⟨w,n4,[(Ak w),(Jg z L),(Jf z c)]⟩ a w') ((c.Ag.xs.length+24) - 0) ?_ ?_
 ·intro a w' hs;exact⟨w2.heap.size,0,rfl,Nat.le_refl _,Nat.zero_le _,hs⟩
 rintro m a w' ⟨n4,h0,rfl,hn3,hkh0,hs⟩
 refine(?_:G Tryd.prog 187 [(2,pt z),(Fj z),(5,Ac h0)] [] ⟨w,n4,[(Ak w),(Jg z L),(Jf z c)]⟩ _ _ _) a w' hs
 clear hs a w'
 refine Ce <| Ce ?_
 by_cases h5:(h0:Int)<(L.channels.xs.length:Int)
 ·refine Az 9 0 [1] [[o0,o0,(a1 1),o0,oT]] [Qb z,BT ((h0:Int)<(L.channels.xs.length:Int))] [(2,pt z),(Fj z),(5,Ac h0),(22,.bool true)] rfl ⟨rfl,bt,Ae⟩ ?_
  by_cases h6:(h0:Int)<(c.Ag.xs.length:Int)
  ·obtain⟨b7,o8,ha9,hF11,hc10⟩:=(hL.channels).1.all (show 0<L.channels.xs.length by omega)
   replace ha9:L.channels.a=some ⟨b7,o8,none⟩:=ha9
   have hc12:=hc10 h0 (show h0<L.channels.xs.length by omega)
   have he13:=(hL.channels).2 h0 (show h0<L.channels.xs.length by omega)
   obtain⟨y14,hy14⟩:∃ y_,y_=gd L.channels.xs h0:=⟨_,rfl⟩
   rw[←hy14]at he13 hc12
   try have hpey14:y14=DD h0:=by rw[hy14,hI.hx,VN (by omega) (by omega)]
   obtain⟨b15,o16,ha17,hF19,hc18⟩:=(hc.Ag).1.all (show 0<c.Ag.xs.length by omega)
   replace ha17:c.Ag.a=some ⟨b15,o16,none⟩:=ha17
   have hc20:=hc18 h0 (show h0<c.Ag.xs.length by omega)
   have he21:=(hc.Ag).2 h0 (show h0<c.Ag.xs.length by omega)
   obtain⟨y22,hy22⟩:∃ y_,y_=gd c.Ag.xs h0:=⟨_,rfl⟩
   rw[←hy22]at he21 hc20
   have hpey14:y14=y22:=by rw[hy14,hy22,hI.hx,Wn (by omega)]
   refine Eh 35 [0,1,2] [(Ak w),(Jg z L),(Jf z c)] rfl rfl ?_
   refine Dj [(0,o0),(1,o0),(2,(DN 2 b15 o16 c.Ag)),(3,o0),(4,oF),(5,o0),(6,o0),(7,o0),(8,o0),(9,o0),(10,o0),(11,o0),(12,o0),(13,o0),(14,o0),(15,o0),(16,o0),(17,o0),(18,(DN 2 b15 o16 c.Ag)),(19,o0),(20,oT),(21,o0),(22,o0),(23,(DN 1 b7 o8 L.channels)),(24,o0),(25,(oi h0)),(26,(ol 0 (AL.arr y14))),(27,o0),(28,(DN 2 b15 o16 c.Ag)),(29,o0),(30,(oi h0)),(31,(ol 0 (AL.arr y22))),(32,⟨.seq true,none⟩),(33,o0),(34,o0)] [2,3,5,59] [Qb (z+1),Dh b15 o16 c.Ag,BF ((h0:Int)≥(c.Ag.xs.length:Int)),Qb (z+1),Dh b15 o16 c.Ag,BT ((h0:Int)<(c.Ag.xs.length:Int)),Qb z,Dh b7 o8 L.channels,Ci h0,h0<L.channels.xs.length,BN,Fa w b7 (o8+h0*3) (AL.arr y14),Qb (z+1),Dh b15 o16 c.Ag,Ci h0,h0<c.Ag.xs.length,BN,Fa w b15 (o16+h0*3) (AL.arr y22),((y14.Kind:Int)==(y22.Kind:Int)&&((y14.Words:Int)==(y22.Words:Int)&&((y14.Dn:Int)==(y22.Dn:Int)&&true)))=true] (DF 35 0) [(2,pt z),(Fj z),(5,Ac h0),(59,.bool false)] ⟨rfl,Df ha17,bf,rfl,Df ha17,bt,rfl,Df ha9,rfl,(by omega),rfl,Dt hc12,rfl,Df ha17,rfl,(by omega),rfl,Dt hc20,(by rw[hpey14];simp[DD,Dq,Ez,EG]),Ae⟩ ?_
   refine CU ?_
   refine Jw 7 0 [0] [[o0,(ov (i6 ((h0+1:Nat):Int))),o0]] [Wr ((h0:Int)+1) (((h0+1:Nat):Int))] [(2,pt z),(Fj z),(5,i6 ((h0+1:Nat):Int))] rfl ⟨BQ,Ae⟩ ?_
   refine BD (fun a w' hs=>⟨(c.Ag.xs.length+24) - (h0+1),by omega,n4,(h0+1),rfl,by omega,by omega,hs⟩)
  obtain⟨b23,o24,ha25,hF27,hc26⟩:=(hL.channels).1.all (show 0<L.channels.xs.length by omega)
  replace ha25:L.channels.a=some ⟨b23,o24,none⟩:=ha25
  have hc28:=hc26 h0 (show h0<L.channels.xs.length by omega)
  have he29:=(hL.channels).2 h0 (show h0<L.channels.xs.length by omega)
  obtain⟨y30,hy30⟩:∃ y_,y_=gd L.channels.xs h0:=⟨_,rfl⟩
  rw[←hy30]at he29 hc28
  try have hpey30:y30=DD h0:=by rw[hy30,hI.hx,VN (by omega) (by omega)]
  refine Eh 35 [0,1,2] [(Ak w),(Jg z L),(Jf z c)] rfl rfl ?_
  refine JB [.tk 0 o0,.tk 1 o0,.tk 2 (a1 2),.tk 3 o0,.tk 4 oT,.tk 5 o0,.tk 6 o0,.tk 7 (DN 1 b23 o24 L.channels),.tk 8 o0,.tk 9 (oi h0),.tk 10 (ol 0 (AL.arr y30)),.tk 11 o0,.cl 12 (.agg (AL.arr (DD h0))),.tk 13 ⟨.seq true,none⟩,.tk 14 o0,.tk 15 o0,.tk 16 o0,.tk 17 o0,.tk 18 (a1 2),.tk 19 o0,.tk 20 oF,.tk 21 o0,.tk 22 o0,.tk 23 o0,.tk 24 o0,.tk 25 o0,.tk 26 o0,.tk 27 o0,.tk 28 o0,.tk 29 o0,.tk 30 o0,.tk 31 o0,.tk 32 o0,.tk 33 o0,.tk 34 o0] [2,3,5,59] [(15,#[(Ac h0)],.agg (AL.arr (DD h0)))] (DF 35 0) [Qb (z+1),BT ((h0:Int)≥(c.Ag.xs.length:Int)),Qb z,Dh b23 o24 L.channels,Ci h0,h0<L.channels.xs.length,BN,Fa w b23 (o24+h0*3) (AL.arr y30),((y30.Kind:Int)==((DD h0).Kind:Int)&&((y30.Words:Int)==((DD h0).Words:Int)&&((y30.Dn:Int)==((DD h0).Dn:Int)&&true)))=true,Qb (z+1),BF ((h0:Int)<(c.Ag.xs.length:Int))] [(2,pt z),(Fj z),(5,Ac h0),(59,.bool false)] [0,1,2] ⟨rfl,bt,rfl,Df ha25,rfl,(by omega),rfl,Dt hc28,(by rw[hpey30];simp[DD,Dq,Ez,EG]),rfl,bf,Ae⟩ ⟨fun w31 hw31=>YT w31 h0 (by omega),Ae⟩ (fun n32 hn33 => ?_)
  replace hn33:n4≤n32:=hn33
  refine CU ?_
  refine Jw 7 0 [0] [[o0,(ov (i6 ((h0+1:Nat):Int))),o0]] [Wr ((h0:Int)+1) (((h0+1:Nat):Int))] [(2,pt z),(Fj z),(5,i6 ((h0+1:Nat):Int))] rfl ⟨BQ,Ae⟩ ?_
  refine BD (fun a w' hs=>⟨(c.Ag.xs.length+24) - (h0+1),by omega,n32,(h0+1),rfl,by omega,by omega,hs⟩)
 refine Az 15 0 [0] [[o0,o0,(a1 1),o0,oF],[o0,(a1 2),o0,o0]] [Qb z,BF ((h0:Int)<(L.channels.xs.length:Int)),Qb (z+1)] [(2,pt z),(Fj z),(6,Ac c.Aq.xs.length)] rfl ⟨rfl,bf,rfl,Ae⟩ ?_
 refine Di (fun m a w'=>∃ (n35:Nat) (i2:Nat),m=(c.Aq.xs.length+24) - i2∧n4≤n35∧(c.Aq.xs.length≤i2∧i2≤(c.Aq.xs.length+24))∧St 187 [(2,pt z),(Fj z),(6,Ac i2)] [] ⟨w,n35,[(Ak w),(Jg z L),(Jf z c)]⟩ a w') ((c.Aq.xs.length+24) - c.Aq.xs.length) ?_ ?_
 ·intro a w' hs;exact⟨n4,c.Aq.xs.length,rfl,Nat.le_refl _,⟨Nat.le_refl _,by omega⟩,hs⟩
 rintro m a w' ⟨n35,i2,rfl,hn34,hki2,hs⟩
 refine(?_:G Tryd.prog 187 [(2,pt z),(Fj z),(6,Ac i2)] [] ⟨w,n35,[(Ak w),(Jg z L),(Jf z c)]⟩ _ _ _) a w' hs
 clear hs a w'
 refine Ce <| Ce ?_
 by_cases h36:(i2:Int)<(L.He.xs.length:Int)
 ·refine Az 9 0 [1] [[o0,o0,(a1 1),o0,oT]] [Qb z,BT ((i2:Int)<(L.He.xs.length:Int))] [(2,pt z),(Fj z),(6,Ac i2),(67,.bool true)] rfl ⟨rfl,bt,Ae⟩ ?_
  obtain⟨b37,o38,ha39,hF41,hc40⟩:=(hL.He).1.all (show 0<L.He.xs.length by omega)
  replace ha39:L.He.a=some ⟨b37,o38,none⟩:=ha39
  have hc42:=hc40 i2 (show i2<L.He.xs.length by omega)
  have he43:=(hL.He).2 i2 (show i2<L.He.xs.length by omega)
  obtain⟨y44,hy44⟩:∃ y_,y_=gd L.He.xs i2:=⟨_,rfl⟩
  rw[←hy44]at he43 hc42
  have hxsy44:=lent_sp hI (i:=i2) (by omega) (by omega);rw[←hy44]at hxsy44;have hlny44:y44.xs.length=1:=by rw[hxsy44];rfl
  obtain⟨b45,o46,ha47,hF49,hc48⟩:=(he43).1.all (show 0<y44.xs.length by omega)
  replace ha47:y44.a=some ⟨b45,o46,none⟩:=ha47
  have hc50:=hc48 0 (show 0<y44.xs.length by omega)
  have he51:=(he43).2 0 (show 0<y44.xs.length by omega)
  obtain⟨y52,hy52⟩:∃ y_,y_=gd y44.xs 0:=⟨_,rfl⟩
  rw[←hy52]at he51 hc50
  have hpey52:y52=Dq i2:=by rw[hy52,hxsy44];rfl
  refine Eh 19 [0,1,2] [(Ak w),(Jg z L),(Jf z c)] rfl rfl ?_
  refine JB [.tk 0 o0,.tk 1 (DN 1 b37 o38 L.He),.tk 2 o0,.tk 3 (oi i2),.tk 4 ⟨.auto [.via 0 (.slice y44.a y44.xs.length y44.cap)],some (.slice (some ⟨b45,o46,none⟩) y44.xs.length y44.cap)⟩,.tk 5 o0,.tk 6 oF,.tk 7 o0,.tk 8 o0,.tk 9 (DN 1 b37 o38 L.He),.tk 10 o0,.tk 11 (oi i2),.tk 12 ⟨.auto [.via 0 (.slice y44.a y44.xs.length y44.cap)],some (.slice (some ⟨b45,o46,none⟩) y44.xs.length y44.cap)⟩,.tk 13 (oi 0),.tk 14 (ol 0 (Au.arr y52)),.tk 15 o0,.cl 16 (.agg (Au.arr (Dq i2))),.tk 17 ⟨.seq true,none⟩,.tk 18 o0] [2,3,6,88] [(17,#[(Ac i2)],.agg (Au.arr (Dq i2)))] (DF 19 0) [Qb z,Dh b37 o38 L.He,Ci i2,i2<L.He.xs.length,BN,Old w b37 (o38+i2) (.slice y44.a y44.xs.length y44.cap),Dh b45 o46 y44,NF (y44.xs.length:Int) 1,Qb z,Dh b37 o38 L.He,Ci i2,i2<L.He.xs.length,BN,Old w b37 (o38+i2) (.slice y44.a y44.xs.length y44.cap),Dh b45 o46 y44,(0:Int)=((0:Nat):Int),0<y44.xs.length,BN,Fa w b45 o46 (Au.arr y52),((y52.Partition:Int)==((Dq i2).Partition:Int)&&((y52.Ba:Int)==((Dq i2).Ba:Int)&&((y52.AQ:Int)==((Dq i2).AQ:Int)&&true)))=true] [(2,pt z),(Fj z),(6,Ac i2),(88,.bool false)] [0,1,2] ⟨rfl,Df ha39,rfl,(by omega),rfl,A7 (hc42 0 _ rfl),Df ha47,nf,rfl,Df ha39,rfl,(by omega),rfl,A7 (hc42 0 _ rfl),Df ha47,rfl,(by omega),rfl,Dt hc50,(by rw[hpey52];simp[DD,Dq,Ez,EG]),Ae⟩ ⟨fun w53 hw53=>Tn w53 i2 (by omega),Ae⟩ (fun n54 hn55 => ?_)
  replace hn55:n35≤n54:=hn55
  refine CU ?_
  refine Jw 7 0 [0] [[o0,(ov (i6 ((i2+1:Nat):Int))),o0]] [Wr ((i2:Int)+1) (((i2+1:Nat):Int))] [(2,pt z),(Fj z),(6,i6 ((i2+1:Nat):Int))] rfl ⟨BQ,Ae⟩ ?_
  refine BD (fun a w' hs=>⟨(c.Aq.xs.length+24) - (i2+1),by omega,n54,(i2+1),rfl,by omega,by omega,hs⟩)
 refine Az 15 0 [0] [[o0,o0,(a1 1),o0,oF],[o0]] [Qb z,BF ((i2:Int)<(L.He.xs.length:Int))] [(2,pt z),(Fj z),(7,i6 0)] rfl ⟨rfl,bf,Ae⟩ ?_
 refine Di (fun m a w'=>∃ (n57:Nat) (i:Nat),m=c.Aq.xs.length - i∧n35≤n57∧(i≤c.Aq.xs.length)∧St 187 [(2,pt z),(Fj z),(7,Ac i)] [] ⟨w,n57,[(Ak w),(Jg z L),(Jf z c)]⟩ a w') (c.Aq.xs.length - 0) ?_ ?_
 ·intro a w' hs;exact⟨n35,0,rfl,Nat.le_refl _,Nat.zero_le _,hs⟩
 rintro m a w' ⟨n57,i,rfl,hn56,hki,hs⟩
 refine(?_:G Tryd.prog 187 [(2,pt z),(Fj z),(7,Ac i)] [] ⟨w,n57,[(Ak w),(Jg z L),(Jf z c)]⟩ _ _ _) a w' hs
 clear hs a w'
 refine Ce <| Ce ?_
 by_cases h58:(i:Int)<(c.Aq.xs.length:Int)
 ·refine Az 13 0 [1] [[o0,o0,(a1 2),o0,oT],[o0]] [Qb (z+1),BT ((i:Int)<(c.Aq.xs.length:Int))] [(2,pt z),(Fj z),(7,Ac i),(8,i6 0)] rfl ⟨rfl,bt,Ae⟩ ?_
  refine Di (fun m a w'=>∃ (n60:Nat) (k:Nat),m=((gd c.Aq.xs i).xs.length+24) - k∧n57≤n60∧(k≤((gd c.Aq.xs i).xs.length+24))∧St 187 [(2,pt z),(Fj z),(7,Ac i),(8,Ac k)] [] ⟨w,n60,[(Ak w),(Jg z L),(Jf z c)]⟩ a w') (((gd c.Aq.xs i).xs.length+24) - 0) ?_ ?_
  ·intro a w' hs;exact⟨n57,0,rfl,Nat.le_refl _,Nat.zero_le _,hs⟩
  rintro m a w' ⟨n60,k,rfl,hn59,hkk,hs⟩
  refine(?_:G Tryd.prog 187 [(2,pt z),(Fj z),(7,Ac i),(8,Ac k)] [] ⟨w,n60,[(Ak w),(Jg z L),(Jf z c)]⟩ _ _ _) a w' hs
  clear hs a w'
  refine Ce <| Ce ?_
  obtain⟨b61,o62,ha63,hF65,hc64⟩:=(hL.windows).1.all (show 0<L.windows.xs.length by omega)
  replace ha63:L.windows.a=some ⟨b61,o62,none⟩:=ha63
  have hc66:=hc64 i (show i<L.windows.xs.length by omega)
  have he67:=(hL.windows).2 i (show i<L.windows.xs.length by omega)
  obtain⟨y68,hy68⟩:∃ y_,y_=gd L.windows.xs i:=⟨_,rfl⟩
  rw[←hy68]at he67 hc66
  have hlwy68:=lent_wl hI (i:=i) (by omega);rw[←hy68]at hlwy68;have hwly68:=he67.1.len
  by_cases h69:(k:Int)<(y68.xs.length:Int)
  ·refine Az 10 1 [1] [[o0,o0,(DN 1 b61 o62 L.windows),o0,(oi i),(oa [.via 0 (.slice y68.a y68.xs.length y68.cap)]),o0,oT],[o0]] [Qb z,Dh b61 o62 L.windows,Ci i,i<L.windows.xs.length,BN,Old w b61 (o62+i) (.slice y68.a y68.xs.length y68.cap),BT ((k:Int)<(y68.xs.length:Int))] [(2,pt z),(Fj z),(7,Ac i),(8,Ac k),(106,Ac k)] rfl ⟨rfl,Df ha63,rfl,(by omega),rfl,A7 (hc66 0 _ rfl),bt,Ae⟩ ?_
   refine Bf 17 #[(Ac k)] (some 107) (.agg (Au.arr (Dq k))) (fun w70 hw70=>Tn w70 k (by omega)) (fun n71 (hn72:n60≤n71) => ?_)
   refine EY 4 0 [] [[o0,(an 3 3)]] [Qb n71,Qb n71,Qb n71] [(2,pt z),(Fj z),(7,Ac i),(8,Ac k),(9,pt n71)] ⟨w,n71+1,[(Ak w),(Jg z L),(Jf z c),(bk n71 (Au.arr (Dq k)) 44)]⟩ rfl ⟨rfl,rfl,rfl,Ae⟩ ?_
   obtain⟨b73,o74,ha75,hF77,hc76⟩:=(hc.Aq).1.all (show 0<c.Aq.xs.length by omega)
   replace ha75:c.Aq.a=some ⟨b73,o74,none⟩:=ha75
   have hc78:=hc76 i (show i<c.Aq.xs.length by omega)
   have he79:=(hc.Aq).2 i (show i<c.Aq.xs.length by omega)
   obtain⟨y80,hy80⟩:∃ y_,y_=gd c.Aq.xs i:=⟨_,rfl⟩
   rw[←hy80]at he79 hc78
   have hyly80:=he79.1.len;have hygy80:y80.xs.length=(gd c.Aq.xs i).xs.length:=by rw[hy80]
   by_cases h81:(k:Int)<(y80.xs.length:Int)
   ·refine Az 4 0 [1] [[o0,o0,(DN 2 b73 o74 c.Aq),o0,(oi i),(oa [.via 0 (.slice y80.a y80.xs.length y80.cap)]),o0,oT]] [Qb (z+1),Dh b73 o74 c.Aq,Ci i,i<c.Aq.xs.length,BN,Old w b73 (o74+i) (.slice y80.a y80.xs.length y80.cap),BT ((k:Int)<(y80.xs.length:Int))] [(2,pt z),(Fj z),(7,Ac i),(8,Ac k),(9,pt n71),(115,.bool true)] rfl ⟨rfl,Df ha75,rfl,(by omega),rfl,A7 (hc78 0 _ rfl),bt,Ae⟩ ?_
    obtain⟨b82,o83,ha84,hF86,hc85⟩:=(he79).1.all (show 0<y80.xs.length by omega)
    replace ha84:y80.a=some ⟨b82,o83,none⟩:=ha84
    have hc87:=hc85 k (show k<y80.xs.length by omega)
    have he88:=(he79).2 k (show k<y80.xs.length by omega)
    obtain⟨y89,hy89⟩:∃ y_,y_=gd y80.xs k:=⟨_,rfl⟩
    rw[←hy89]at he88 hc87
    refine q_c 4 0 [] [[o0,(DN 2 b73 o74 c.Aq),o0,(oi i),⟨.auto [.via 0 (.slice y80.a y80.xs.length y80.cap)],some (.slice (some ⟨b82,o83,none⟩) y80.xs.length y80.cap)⟩,o0,(oi k),(ol 0 (Au.arr y89)),(an 3 3)]] [Qb (z+1),Dh b73 o74 c.Aq,Ci i,i<c.Aq.xs.length,BN,Old w b73 (o74+i) (.slice y80.a y80.xs.length y80.cap),Dh b82 o83 y80,Ci k,k<y80.xs.length,BN,Fa w b82 (o83+k*3) (Au.arr y89),Qb n71,Qb n71,Qb n71] [(2,pt z),(Fj z),(7,Ac i),(8,Ac k),(9,pt n71)] ⟨w,n71+1,[(Ak w),(Jg z L),(Jf z c),(bk n71 (Au.arr y89) 44)]⟩ rfl ⟨rfl,Df ha75,rfl,(by omega),rfl,A7 (hc78 0 _ rfl),Df ha84,rfl,(by omega),rfl,Dt hc87,rfl,rfl,rfl,Ae⟩ ?_
    obtain⟨b90,o91,ha92,hF94,hc93⟩:=(he67).1.all (show 0<y68.xs.length by omega)
    replace ha92:y68.a=some ⟨b90,o91,none⟩:=ha92
    have hc95:=hc93 k (show k<y68.xs.length by omega)
    have he96:=(he67).2 k (show k<y68.xs.length by omega)
    obtain⟨y97,hy97⟩:∃ y_,y_=gd y68.xs k:=⟨_,rfl⟩
    rw[←hy97]at he96 hc95
    have hpey97:y97=y89:=by rw[hy97,hy89,show y68.xs=wid Dq y80.xs from(by rw[hy68,hI.Ry.w1 i (by omega) (by omega),←hy80]),Wn (by omega)]
    refine Eh 10 [0,1,2,3] [(Ak w),(Jg z L),(Jf z c),(bk n71 (Au.arr y89) 44)] rfl rfl ?_
    refine Dj [(0,o0),(1,(DN 1 b61 o62 L.windows)),(2,o0),(3,(oi i)),(4,⟨.auto [.via 0 (.slice y68.a y68.xs.length y68.cap)],some (.slice (some ⟨b90,o91,none⟩) y68.xs.length y68.cap)⟩),(5,o0),(6,(oi k)),(7,(ol 0 (Au.arr y97))),(8,(an 3 3)),(9,⟨.seq true,none⟩)] [2,3,7,8,133] [Qb z,Dh b61 o62 L.windows,Ci i,i<L.windows.xs.length,BN,Old w b61 (o62+i) (.slice y68.a y68.xs.length y68.cap),Dh b90 o91 y68,Ci k,k<y68.xs.length,BN,Fa w b90 (o91+k*3) (Au.arr y97),Qb n71,Qb n71,Qb n71,((y97.Partition:Int)==(y89.Partition:Int)&&((y97.Ba:Int)==(y89.Ba:Int)&&((y97.AQ:Int)==(y89.AQ:Int)&&true)))=true] (DF 10 0) [(2,pt z),(Fj z),(7,Ac i),(8,Ac k),(133,.bool false)] ⟨rfl,Df ha63,rfl,(by omega),rfl,A7 (hc66 0 _ rfl),Df ha92,rfl,(by omega),rfl,Dt hc95,rfl,rfl,rfl,(by rw[hpey97];simp[DD,Dq,Ez,EG]),Ae⟩ ?_
    refine CU ?_
    refine Jw 7 0 [0] [[o0,(ov (i6 ((k+1:Nat):Int))),o0]] [Wr ((k:Int)+1) (((k+1:Nat):Int))] [(2,pt z),(Fj z),(7,Ac i),(8,i6 ((k+1:Nat):Int))] rfl ⟨BQ,Ae⟩ ?_
    refine Cb [0,1,2] [(Ak w),(Jg z L),(Jf z c)] rfl rfl ?_
    refine BK [2,3,7,8] [(2,pt z),(Fj z),(7,Ac i),(8,i6 ((k+1:Nat):Int))] ?_
    refine BD (fun a w' hs=>⟨((gd c.Aq.xs i).xs.length+24) - (k+1),by omega,(n71+1),(k+1),rfl,by omega,by omega,hs⟩)
   refine Az 7 0 [0] [[o0,o0,(DN 2 b73 o74 c.Aq),o0,(oi i),(oa [.via 0 (.slice y80.a y80.xs.length y80.cap)]),o0,oF]] [Qb (z+1),Dh b73 o74 c.Aq,Ci i,i<c.Aq.xs.length,BN,Old w b73 (o74+i) (.slice y80.a y80.xs.length y80.cap),BF ((k:Int)<(y80.xs.length:Int))] [(2,pt z),(Fj z),(7,Ac i),(8,Ac k),(9,pt n71),(115,.bool false)] rfl ⟨rfl,Df ha75,rfl,(by omega),rfl,A7 (hc78 0 _ rfl),bf,Ae⟩ ?_
   obtain⟨b98,o99,ha100,hF102,hc101⟩:=(he67).1.all (show 0<y68.xs.length by omega)
   replace ha100:y68.a=some ⟨b98,o99,none⟩:=ha100
   have hc103:=hc101 k (show k<y68.xs.length by omega)
   have he104:=(he67).2 k (show k<y68.xs.length by omega)
   obtain⟨y105,hy105⟩:∃ y_,y_=gd y68.xs k:=⟨_,rfl⟩
   rw[←hy105]at he104 hc103
   try have hpey105:y105=Dq k:=by rw[hy105,show y68.xs=wid Dq y80.xs from(by rw[hy68,hI.Ry.w1 i (by omega) (by omega),←hy80]),VN (by omega) (by omega)]
   refine Eh 10 [0,1,2,3] [(Ak w),(Jg z L),(Jf z c),(bk n71 (Au.arr (Dq k)) 44)] rfl rfl ?_
   refine Dj [(0,o0),(1,(DN 1 b61 o62 L.windows)),(2,o0),(3,(oi i)),(4,⟨.auto [.via 0 (.slice y68.a y68.xs.length y68.cap)],some (.slice (some ⟨b98,o99,none⟩) y68.xs.length y68.cap)⟩),(5,o0),(6,(oi k)),(7,(ol 0 (Au.arr y105))),(8,(an 3 3)),(9,⟨.seq true,none⟩)] [2,3,7,8,133] [Qb z,Dh b61 o62 L.windows,Ci i,i<L.windows.xs.length,BN,Old w b61 (o62+i) (.slice y68.a y68.xs.length y68.cap),Dh b98 o99 y68,Ci k,k<y68.xs.length,BN,Fa w b98 (o99+k*3) (Au.arr y105),Qb n71,Qb n71,Qb n71,((y105.Partition:Int)==((Dq k).Partition:Int)&&((y105.Ba:Int)==((Dq k).Ba:Int)&&((y105.AQ:Int)==((Dq k).AQ:Int)&&true)))=true] (DF 10 0) [(2,pt z),(Fj z),(7,Ac i),(8,Ac k),(133,.bool false)] ⟨rfl,Df ha63,rfl,(by omega),rfl,A7 (hc66 0 _ rfl),Df ha100,rfl,(by omega),rfl,Dt hc103,rfl,rfl,rfl,(by rw[hpey105];simp[DD,Dq,Ez,EG]),Ae⟩ ?_
   refine CU ?_
   refine Jw 7 0 [0] [[o0,(ov (i6 ((k+1:Nat):Int))),o0]] [Wr ((k:Int)+1) (((k+1:Nat):Int))] [(2,pt z),(Fj z),(7,Ac i),(8,i6 ((k+1:Nat):Int))] rfl ⟨BQ,Ae⟩ ?_
   refine Cb [0,1,2] [(Ak w),(Jg z L),(Jf z c)] rfl rfl ?_
   refine BK [2,3,7,8] [(2,pt z),(Fj z),(7,Ac i),(8,i6 ((k+1:Nat):Int))] ?_
   refine BD (fun a w' hs=>⟨((gd c.Aq.xs i).xs.length+24) - (k+1),by omega,(n71+1),(k+1),rfl,by omega,by omega,hs⟩)
  refine Az 12 0 [0] [[o0,o0,(DN 1 b61 o62 L.windows),o0,(oi i),(oa [.via 0 (.slice y68.a y68.xs.length y68.cap)]),o0,oF],[o0,(ov (i6 ((i+1:Nat):Int))),o0]] [Qb z,Dh b61 o62 L.windows,Ci i,i<L.windows.xs.length,BN,Old w b61 (o62+i) (.slice y68.a y68.xs.length y68.cap),BF ((k:Int)<(y68.xs.length:Int)),Wr ((i:Int)+1) (((i+1:Nat):Int))] [(2,pt z),(Fj z),(7,i6 ((i+1:Nat):Int))] rfl ⟨rfl,Df ha63,rfl,(by omega),rfl,A7 (hc66 0 _ rfl),bf,BQ,Ae⟩ ?_
  refine BD (fun a w' hs=>⟨c.Aq.xs.length - (i+1),by omega,n60,(i+1),rfl,by omega,by omega,hs⟩)
 refine Az 15 0 [0] [[o0,o0,(a1 2),o0,oF],[o0,(a1 2),o0,o0]] [Qb (z+1),BF ((i:Int)<(c.Aq.xs.length:Int)),Qb (z+1)] [(2,pt z),(Fj z),(10,Ac c.Aa.xs.length)] rfl ⟨rfl,bf,rfl,Ae⟩ ?_
 refine Di (fun m a w'=>∃ (n107:Nat) (p2:Nat),m=(c.Aa.xs.length+24) - p2∧n57≤n107∧(c.Aa.xs.length≤p2∧p2≤(c.Aa.xs.length+24))∧St 187 [(2,pt z),(Fj z),(10,Ac p2)] [] ⟨w,n107,[(Ak w),(Jg z L),(Jf z c)]⟩ a w') ((c.Aa.xs.length+24) - c.Aa.xs.length) ?_ ?_
 ·intro a w' hs;exact⟨n57,c.Aa.xs.length,rfl,Nat.le_refl _,⟨Nat.le_refl _,by omega⟩,hs⟩
 rintro m a w' ⟨n107,p2,rfl,hn106,hkp2,hs⟩
 refine(?_:G Tryd.prog 187 [(2,pt z),(Fj z),(10,Ac p2)] [] ⟨w,n107,[(Ak w),(Jg z L),(Jf z c)]⟩ _ _ _) a w' hs
 clear hs a w'
 refine Ce <| Ce ?_
 by_cases h108:(p2:Int)<(L.partitions.xs.length:Int)
 ·refine Az 9 0 [1] [[o0,o0,(a1 1),o0,oT]] [Qb z,BT ((p2:Int)<(L.partitions.xs.length:Int))] [(2,pt z),(Fj z),(10,Ac p2),(141,.bool true)] rfl ⟨rfl,bt,Ae⟩ ?_
  obtain⟨b109,o110,ha111,hF113,hc112⟩:=(hL.partitions).1.all (show 0<L.partitions.xs.length by omega)
  replace ha111:L.partitions.a=some ⟨b109,o110,none⟩:=ha111
  have hc114:=hc112 p2 (show p2<L.partitions.xs.length by omega)
  have he115:=(hL.partitions).2 p2 (show p2<L.partitions.xs.length by omega)
  obtain⟨y116,hy116⟩:∃ y_,y_=gd L.partitions.xs p2:=⟨_,rfl⟩
  rw[←hy116]at he115 hc114
  have hpmy116:=lent_pm hI (i:=p2) (by omega) (by omega);rw[←hy116]at hpmy116;have hpey116:y116.Entry = -1000 - (p2:Int):=(by rw[hpmy116];rfl);have hpry116:y116.Af.xs.length=0:=(by rw[hpmy116];rfl);have hpqy116:y116.Am.xs.length=0:=(by rw[hpmy116];rfl)
  refine q_c 13 0 [0] [[o0,(DN 1 b109 o110 L.partitions),o0,(oi p2),(ol 0 (Ap.arr y116)),o0,(an 8 3)],[o0,(a1 3),(ov (.bool false)),o0,o0,(a1 3),o0,(ov (i6 ((-1000) - (p2:Int)))),oF,o0,o0,o0,(a1 3),o0,oF,o0,o0,o0,(a1 3),o0,oF,o0],[o0,(ov (i6 ((p2+1:Nat):Int))),o0]] [Qb z,Dh b109 o110 L.partitions,Ci p2,p2<L.partitions.xs.length,BN,Fa w b109 (o110+p2*8) (Ap.arr y116),Qb n107,Qb n107,Qb n107,Qb n107,Qb n107,Qb n107,Qb n107,Qb n107,Qb n107,Value.bool (!(y116.Name.toList==(⟨#[]⟩:ByteArray).toList))=Value.bool false,Qb n107,Wr ((-1000:Int) - (p2:Int)) ((-1000) - (p2:Int)),NF y116.Entry ((-1000) - (p2:Int)),Qb n107,NF (y116.Af.xs.length:Int) 0,Qb n107,NF (y116.Am.xs.length:Int) 0,Wr ((p2:Int)+1) (((p2+1:Nat):Int))] [(2,pt z),(Fj z),(10,i6 ((p2+1:Nat):Int))] ⟨w,n107+1,[(Ak w),(Jg z L),(Jf z c),(bk n107 (Ap.arr y116) 41)]⟩ rfl ⟨rfl,Df ha111,rfl,(by omega),rfl,Dt hc114,rfl,rfl,rfl,rfl,rfl,rfl,rfl,rfl,rfl,(congrArg (fun t=>Value.bool (!t)) (beq_iff_eq.2 (congrArg ByteArray.toList (show y116.Name=(⟨#[]⟩:ByteArray)from(by rw[hpmy116];rfl))))),rfl,BQ,nf,rfl,nf,rfl,nf,BQ,Ae⟩ ?_
  refine Cb [0,1,2] [(Ak w),(Jg z L),(Jf z c)] rfl rfl ?_
  refine BK [2,3,10] [(2,pt z),(Fj z),(10,i6 ((p2+1:Nat):Int))] ?_
  refine BD (fun a w' hs=>⟨(c.Aa.xs.length+24) - (p2+1),by omega,(n107+1),(p2+1),rfl,by omega,by omega,hs⟩)
 refine Az 15 0 [0] [[o0,o0,(a1 1),o0,oF],[o0]] [Qb z,BF ((p2:Int)<(L.partitions.xs.length:Int))] [(2,pt z),(Fj z),(12,i6 0)] rfl ⟨rfl,bf,Ae⟩ ?_
 refine Di (fun m a w'=>∃ (n118:Nat) (p:Nat),m=c.Aa.xs.length - p∧n107≤n118∧(p≤c.Aa.xs.length)∧St 187 [(2,pt z),(Fj z),(12,Ac p)] [] ⟨w,n118,[(Ak w),(Jg z L),(Jf z c)]⟩ a w') (c.Aa.xs.length - 0) ?_ ?_
 ·intro a w' hs;exact⟨n107,0,rfl,Nat.le_refl _,Nat.zero_le _,hs⟩
 rintro m a w' ⟨n118,p,rfl,hn117,hkp,hs⟩
 refine(?_:G Tryd.prog 187 [(2,pt z),(Fj z),(12,Ac p)] [] ⟨w,n118,[(Ak w),(Jg z L),(Jf z c)]⟩ _ _ _) a w' hs
 clear hs a w'
 refine Ce <| Ce ?_
 by_cases h119:(p:Int)<(c.Aa.xs.length:Int)
 ·refine Az 9 0 [1] [[o0,o0,(a1 2),o0,oT]] [Qb (z+1),BT ((p:Int)<(c.Aa.xs.length:Int))] [(2,pt z),(Fj z),(12,Ac p),(175,.bool true)] rfl ⟨rfl,bt,Ae⟩ ?_
  obtain⟨b120,o121,ha122,hF124,hc123⟩:=(hc.Aa).1.all (show 0<c.Aa.xs.length by omega)
  replace ha122:c.Aa.a=some ⟨b120,o121,none⟩:=ha122
  have hc125:=hc123 p (show p<c.Aa.xs.length by omega)
  have he126:=(hc.Aa).2 p (show p<c.Aa.xs.length by omega)
  obtain⟨y127,hy127⟩:∃ y_,y_=gd c.Aa.xs p:=⟨_,rfl⟩
  rw[←hy127]at he126 hc125
  refine Eh 9 [0,1,2] [(Ak w),(Jg z L),(Jf z c)] rfl rfl ?_
  refine Dj [(0,(an 13 1)),(1,o0),(2,o0),(3,(DN 2 b120 o121 c.Aa)),(4,o0),(5,(oi p)),(6,(ol 0 (Ap.arr y127)))] [2,3,12,178,179,184] [Qb z,Qb z,Qb z,Qb z,Qb z,Qb z,Qb z,Qb z,Qb z,Qb z,Qb z,Qb z,Qb z,Qb (z+1),Dh b120 o121 c.Aa,Ci p,p<c.Aa.xs.length,BN,Fa w b120 (o121+p*8) (Ap.arr y127)] (DF 7 2) [(2,pt z),(Fj z),(12,Ac p),(178,.agg (Hf.arr L)),(179,Ac p),(184,.agg (Ap.arr y127))] ⟨rfl,rfl,rfl,rfl,rfl,rfl,rfl,rfl,rfl,rfl,rfl,rfl,rfl,rfl,Df ha122,rfl,(by omega),rfl,Dt hc125,Ae⟩ ?_
  refine BC 7 ?_
  refine Jj [] [] 30 #[.agg (Hf.arr L),Ac p,.agg (Ap.arr y127)] (some 185) (by as_aux_lemma=>kernel_rfl) rfl rfl Ae ?_
  intro w128 hw128
  have hpi:=hy127
  refine(ZcY w128 c L sp p y127 (hL.ext (hw128.ext rfl) (fun _ h=>h)) hI (he126.ext (hw128.ext rfl) (fun _ h=>h)) (by omega) hpi).mono ?_
  rintro e w129 ⟨rfl,hkw129⟩
  have hnw129:n118≤w129.heap.size:=Fg hw128 hkw129
  have hs130:=hw128.keeps hkw129
  refine⟨_,_,rfl,hs130,.inr (fun c hc=>hs130.all c (by first | exact hc | exact Fe (is:=[0,1,2]) rfl c hc)), ?_⟩
  refine DU [2,3,12,185] [(2,pt z),(Fj z),(12,Ac p),(185,.bool true)] ?_
  refine Dj [(8,o0)] [2,3,12,186] [] (DF 9 0) [(2,pt z),(Fj z),(12,Ac p),(186,.bool false)] Ae ?_
  refine CU ?_
  refine Jw 7 0 [0] [[o0,(ov (i6 ((p+1:Nat):Int))),o0]] [Wr ((p:Int)+1) (((p+1:Nat):Int))] [(2,pt z),(Fj z),(12,i6 ((p+1:Nat):Int))] rfl ⟨BQ,Ae⟩ ?_
  refine BD (fun a w' hs=>⟨c.Aa.xs.length - (p+1),by omega,w129.heap.size,(p+1),rfl,by omega,by omega,hs⟩)
 refine Az 14 0 [0] [[o0,o0,(a1 2),o0,oF],[o0]] [Qb (z+1),BF ((p:Int)<(c.Aa.xs.length:Int))] [(4,.bool true)] rfl ⟨rfl,bf,Ae⟩ ?_
 refine AA [] [] (.bool true) Ae ?_
 intro w131 hw131
 exact⟨rfl,AO hw131⟩
structure Tm(c:Aj):Prop where
 nums:Hy .i64 c.Frames∧Hy .i64 c.CJ∧Hy .i64 c.Kernel∧Hy .i64 c.Room
 ws:∀ i,i<c.Aq.xs.length→∀ k,k<(gd c.Aq.xs i).xs.length→∀ F W,Au.ok F W (gd (gd c.Aq.xs i).xs k)
 ps:∀ i,i<c.Aa.xs.length→(gd c.Aa.xs i).Name.size≤140737488351232∧Hy .i64 (gd c.Aa.xs i).Entry∧Hy .i64 (gd c.Aa.xs i).DK∧Hy .i64 (gd c.Aa.xs i).AY∧Hy .i64 (gd c.Aa.xs i).DI∧Hy .i64 (gd c.Aa.xs i).Bi
 rs:∀ i,i<c.Aa.xs.length→∀ k,k<(gd c.Aa.xs i).Af.xs.length→∀ F W,A8.ok F W (gd (gd c.Aa.xs i).Af.xs k)
 qs:∀ i,i<c.Aa.xs.length→∀ k,k<(gd c.Aa.xs i).Am.xs.length→∀ F W,Bh.ok F W (gd (gd c.Aa.xs i).Am.xs k)
 hs:∀ k,k<c.Ag.xs.length→∀ F W,AL.ok F W (gd c.Ag.xs k)
theorem num_of{c:Aj}{F:Nat→Prop}{W:World}(h:Aj.ok F W c):Tm c:=by
 refine⟨⟨h.Frames,h.CJ,h.Kernel,h.Room⟩,fun i hi k hk F W => ?_,fun i hi => ?_,fun i hi k hk F W => ?_,fun i hi k hk F W => ?_,fun k hk F W => ?_⟩
 ·have t:=(h.Aq.2 i hi).2 k hk;exact⟨t.Partition,t.Ba,t.AQ⟩
 ·have t:=h.Aa.2 i hi;exact⟨t.Name,t.Entry,t.DK,t.AY,t.DI,t.Bi⟩
 ·have t:=(h.Aa.2 i hi).Af.2 k hk;exact⟨t.Bj,t.AV,t.Frame,t.GM⟩
 ·have t:=(h.Aa.2 i hi).Am.2 k hk;exact⟨t.Channel,t.Source⟩
 have t:=h.Ag.2 k hk;exact⟨t.Kind,t.Words,t.Dn⟩
theorem MB{x:Int}(h1 : -9223372036854775808≤x)(h2:x≤9223372036854775807):Hy .i64 x:=⟨h1,h2⟩
theorem ZbE(x:Int):Hy .i64 (IntKind.i64.wrap x):=by
 have h : -9223372036854775808≤IntKind.i64.wrap x∧IntKind.i64.wrap x≤9223372036854775807:=by
  simp only[IntKind.wrap,IntKind.bits,IntKind.signed];simp;omega
 exact MB h.1 h.2
theorem Yq{α:Type}[Inhabited α]{xs:List α}{k:Nat}(h:k<xs.length):gd xs k∈xs:=by rw[F9 h];exact List.getElem_mem _
theorem ZX{α:Type}[Inhabited α]{f:Nat→α}{xs:List α}{p:α→Prop}(h1:∀ k,k<xs.length→p (gd xs k))(h2:∀ k,k<xs.length+24→p (f k)):∀ k,k<(wid f xs).length→p (gd (wid f xs) k):=fun k hk=>by
 rw[Nc]at hk
 by_cases e:k<xs.length
 ·rw[Wn e];exact h1 k e
 rw[VN (by omega) hk];exact h2 k hk
theorem Wu{α:Type}{cells:α→List Value}{sz:Nat}{F:Nat→Prop}{W:World}{a:Option Addr}{cap:Nat}{xs:List α}{n:Nat}(h:KU cells sz F W ⟨a,cap,xs⟩):KU cells sz F W ⟨a,cap - 0,xs.take n⟩:=by
 have e:=List.take_append_drop n xs
 rw[←e]at h
 exact sl_take h
section
variable {c:Aj}{L:Hf}{sp:List (Sl Au)}
theorem lent_ok{n:Nat}{W:World}(hN:Tm c)(hLim:TD c)(h:Oe c L sp)(hO:∃ w0,Sat ⟨w0,W.heap.size,SG n L sp⟩ W):Hf.ok (New n) W L:=by
 obtain⟨w0,hs⟩:=hO
 have r0:W.ownsRow n 55 3 (.slice L.channels.a L.channels.xs.length L.channels.cap) L.channels.xs.length (L.channels.xs.flatMap AL.cells):=hs.at (i:=0) rfl
 have r1:W.ownsRow n 42 1 (.slice L.He.a L.He.xs.length L.He.cap) L.He.xs.length (L.He.xs.flatMap (fun x:Sl Au=>[Sl.val x])):=hs.at (i:=1) rfl
 have r2:W.ownsRow n 42 1 (.slice L.windows.a L.windows.xs.length L.windows.cap) L.windows.xs.length (L.windows.xs.flatMap (fun x:Sl Au=>[Sl.val x])):=hs.at (i:=2) rfl
 have r3:(Be n 44 3 Au.cells L.windows.xs).holds W:=hs.at (i:=3) rfl
 have r4:(Be n 44 3 Au.cells sp).holds W:=hs.at (i:=4) rfl
 have r5:W.ownsRow n 41 8 (.slice L.partitions.a L.partitions.xs.length L.partitions.cap) L.partitions.xs.length (L.partitions.xs.flatMap Ap.cells):=hs.at (i:=5) rfl
 have r6:W.ownsRow n 38 1 (.slice L.regions.a L.regions.xs.length L.regions.cap) L.regions.xs.length (L.regions.xs.flatMap (fun x:Sl A8=>[Sl.val x])):=hs.at (i:=6) rfl
 have r7:(Be n 49 4 A8.cells L.regions.xs).holds W:=hs.at (i:=7) rfl
 have r8:W.ownsRow n 39 1 (.slice L.Gp.a L.Gp.xs.length L.Gp.cap) L.Gp.xs.length (L.Gp.xs.flatMap (fun x:Sl Bh=>[Sl.val x])):=hs.at (i:=8) rfl
 have r9:(Be n 57 2 Bh.cells L.Gp.xs).holds W:=hs.at (i:=9) rfl
 have b1:=hLim.cl
 have b2:=hLim.pl
 have b3:=hLim.hl
 have l1:=h.Ry.l1
 have l2:=h.Ry.l2
 have l3:=h.Ry.l3
 have l4:=h.prt.l1
 have l5:=h.prt.l2
 have l6:=h.prt.l3
 have l0:=Zdy h
 have s0:KU AL.cells 3 (New n) W L.channels:=MI (fun _=>rfl) r0 (show L.channels.xs.length≤140737488351232 by omega)
 have s1:KU (fun x:Sl Au=>[Sl.val x]) 1 (New n) W L.He:=MI (fun _=>rfl) r1 (show L.He.xs.length≤140737488351232 by omega)
 have s2:KU (fun x:Sl Au=>[Sl.val x]) 1 (New n) W L.windows:=MI (fun _=>rfl) r2 (show L.windows.xs.length≤140737488351232 by omega)
 have s5:KU Ap.cells 8 (New n) W L.partitions:=MI (fun _=>rfl) r5 (show L.partitions.xs.length≤140737488351232 by omega)
 have s6:KU (fun x:Sl A8=>[Sl.val x]) 1 (New n) W L.regions:=MI (fun _=>rfl) r6 (show L.regions.xs.length≤140737488351232 by omega)
 have s8:KU (fun x:Sl Bh=>[Sl.val x]) 1 (New n) W L.Gp:=MI (fun _=>rfl) r8 (show L.Gp.xs.length≤140737488351232 by omega)
 have w3:∀ i,i<c.Aq.xs.length→KU Au.cells 3 (New n) W (gd L.windows.xs i):=fun i hi=>Sv (cells:=Au.cells) (hs:=L.windows.xs) (fun _=>rfl) r3 (Yq (by omega)) (by rw[lent_wl h hi];have:=hLim.ws i hi;omega)
 have w4:∀ i,i<sp.length→KU Au.cells 3 (New n) W (gd sp i):=fun i hi=>Sv (cells:=Au.cells) (hs:=sp) (fun _=>rfl) r4 (Yq hi) (by rw[h.Ry.s1 i hi];show 1≤_;omega)
 have w7:∀ i,i<c.Aa.xs.length→KU A8.cells 4 (New n) W (gd L.regions.xs i):=fun i hi=>Sv (cells:=A8.cells) (hs:=L.regions.xs) (fun _=>rfl) r7 (Yq (by omega)) (by rw[Zds h hi];have:=hLim.rs i hi;omega)
 have w9:∀ i,i<c.Aa.xs.length→KU Bh.cells 2 (New n) W (gd L.Gp.xs i):=fun i hi=>Sv (cells:=Bh.cells) (hs:=L.Gp.xs) (fun _=>rfl) r9 (Yq (by omega)) (by rw[Zdu h hi];have:=hLim.qs i hi;omega)
 have v3:∀ i,i<c.Aq.xs.length→Je Au.cells 3 Au.ok (New n) W ⟨(gd L.windows.xs i).a,(gd L.windows.xs i).cap - 0,(gd c.Aq.xs i).xs⟩:=fun i hi=>by
  refine⟨?_,fun k hk=>hN.ws i hi k hk _ _⟩
  have e:=w3 i hi
  have e2:=h.Ry.w1 i (by omega) hi
  rw[show gd L.windows.xs i=⟨(gd L.windows.xs i).a,(gd L.windows.xs i).cap,(gd L.windows.xs i).xs⟩from rfl,e2]at e
  have:=Wu (n:=(gd c.Aq.xs i).xs.length) e
  rw[WU]at this;exact this
 have v7:∀ i,i<c.Aa.xs.length→Je A8.cells 4 A8.ok (New n) W ⟨(gd L.regions.xs i).a,(gd L.regions.xs i).cap - 0,(gd c.Aa.xs i).Af.xs⟩:=fun i hi=>by
  refine⟨?_,fun k hk=>hN.rs i hi k hk _ _⟩
  have e:=w7 i hi
  have e2:=h.prt.r1 i (by omega) hi
  rw[show gd L.regions.xs i=⟨(gd L.regions.xs i).a,(gd L.regions.xs i).cap,(gd L.regions.xs i).xs⟩from rfl,e2]at e
  have:=Wu (n:=(gd c.Aa.xs i).Af.xs.length) e
  rw[WU]at this;exact this
 have v9:∀ i,i<c.Aa.xs.length→Je Bh.cells 2 Bh.ok (New n) W ⟨(gd L.Gp.xs i).a,(gd L.Gp.xs i).cap - 0,(gd c.Aa.xs i).Am.xs⟩:=fun i hi=>by
  refine⟨?_,fun k hk=>hN.qs i hi k hk _ _⟩
  have e:=w9 i hi
  have e2:=h.prt.q1 i (by omega) hi
  rw[show gd L.Gp.xs i=⟨(gd L.Gp.xs i).a,(gd L.Gp.xs i).cap,(gd L.Gp.xs i).xs⟩from rfl,e2]at e
  have:=Wu (n:=(gd c.Aa.xs i).Am.xs.length) e
  rw[WU]at this;exact this
 have vP:∀ i,i<c.Aa.xs.length→Ap.ok (New n) W (gd L.partitions.xs i):=fun i hi=>by
  rw[h.prt.p1 i (by omega) hi]
  obtain⟨a1,a2,a3,a4,a5,a6⟩:=hN.ps i hi
  exact⟨a1,a2,a3,a4,a5,a6,v7 i hi,v9 i hi⟩
 have vC:∀ i,i<c.Aq.xs.length→Je Au.cells 3 Au.ok (New n) W (gd L.He.xs i):=fun i hi=>by
  rw[h.Ry.c1 i (by omega) hi];exact v3 i hi
 refine⟨⟨?_, ?_, ?_, ?_, ?_, ?_, ?_⟩,⟨s0, ?_⟩,⟨s1,fun i hi => ?_⟩,⟨s2,fun i hi => ?_⟩,⟨s5,fun i hi => ?_⟩,⟨s6,fun i hi => ?_⟩,⟨s8,fun i hi => ?_⟩⟩
 ·rw[h.nums.1];exact hN.nums.1
 ·rw[h.nums.2.1];exact hN.nums.2.1
 ·rw[h.nums.2.2.1];exact hN.nums.2.2.1
 ·rw[h.nums.2.2.2];exact hN.nums.2.2.2
 ·rw[h.cC]
  refine⟨Wu s1,fun i hi => ?_⟩
  have hi':i<c.Aq.xs.length:=by have:=hi;simp only[List.length_take]at this;omega
  show Je Au.cells 3 Au.ok (New n) W (gd (List.take c.Aq.xs.length L.He.xs) i)
  rw[Yn hi' (by omega)];exact vC i hi'
 ·rw[h.pC]
  refine⟨Wu s5,fun i hi => ?_⟩
  have hi':i<c.Aa.xs.length:=by have:=hi;simp only[List.length_take]at this;omega
  show Ap.ok (New n) W (gd (List.take c.Aa.xs.length L.partitions.xs) i)
  rw[Yn hi' (by omega)];exact vP i hi'
 ·rw[h.hC]
  refine⟨?_,fun i hi=>hN.hs i hi _ _⟩
  have:=Wu (n:=c.Ag.xs.length) s0
  rw[h.hx,WU]at this;exact this
 ·rw[h.hx];exact ZX (p:=fun x=>AL.ok (New n) W x) (fun k hk=>hN.hs k hk _ _) (fun k hk=>⟨MB (by show _≤(k:Int);omega) (by show(k:Int)≤_;omega),MB (by show _ ≤ -(k:Int);omega) (by show -(k:Int)≤_;omega),MB (by show _≤(k:Int);omega) (by show(k:Int)≤_;omega)⟩)
 ·by_cases e:i<c.Aq.xs.length
  ·exact vC i e
  show Je Au.cells 3 Au.ok (New n) W (gd L.He.xs i)
  rw[h.Ry.c2 i (by omega) (by omega)]
  have hq:i - c.Aq.xs.length<sp.length:=by omega
  refine⟨w4 _ hq,fun k hk => ?_⟩
  have e2:=h.Ry.s1 _ hq
  rw[e2]at hk ⊢
  have hk0:k=0:=by simp at hk;omega
  subst hk0
  show Au.ok (New n) W (Dq (c.Aq.xs.length+(i - c.Aq.xs.length)))
  exact⟨MB (by show _ ≤ -((c.Aq.xs.length+(i - c.Aq.xs.length):Nat):Int);omega) (by show -((c.Aq.xs.length+(i - c.Aq.xs.length):Nat):Int)≤_;omega),MB (by show _≤((c.Aq.xs.length+(i - c.Aq.xs.length):Nat):Int);omega) (by show((c.Aq.xs.length+(i - c.Aq.xs.length):Nat):Int)≤_;omega),MB (by show _ ≤ -((c.Aq.xs.length+(i - c.Aq.xs.length):Nat):Int);omega) (by show -((c.Aq.xs.length+(i - c.Aq.xs.length):Nat):Int)≤_;omega)⟩
 ·have hi':i<c.Aq.xs.length:=by omega
  refine⟨w3 i hi', ?_⟩
  have hb:=hLim.ws i hi'
  rw[h.Ry.w1 i (by omega) hi']
  exact ZX (p:=fun x=>Au.ok (New n) W x) (fun k hk=>hN.ws i hi' k hk _ _) (fun k hk=>⟨MB (by show _ ≤ -(k:Int);omega) (by show -(k:Int)≤_;omega),MB (by show _≤(k:Int);omega) (by show(k:Int)≤_;omega),MB (by show _ ≤ -(k:Int);omega) (by show -(k:Int)≤_;omega)⟩)
 ·by_cases e:i<c.Aa.xs.length
  ·exact vP i e
  rw[h.prt.p2 i (by omega) (by omega)]
  exact⟨Nat.zero_le _,MB (by show _ ≤ -1000 - (i:Int);omega) (by show -1000 - (i:Int)≤_;omega),(show Hy .i64 0 from MB (by decide) (by decide)),(show Hy .i64 0 from MB (by decide) (by decide)),(show Hy .i64 0 from MB (by decide) (by decide)),(show Hy .i64 0 from MB (by decide) (by decide)),Zc7,Zc7⟩
 ·have hi':i<c.Aa.xs.length:=by omega
  refine⟨w7 i hi', ?_⟩
  have hb:=hLim.rs i hi'
  rw[h.prt.r1 i (by omega) hi']
  exact ZX (p:=fun x=>A8.ok (New n) W x) (fun k hk=>hN.rs i hi' k hk _ _) (fun k hk=>⟨MB (by show _ ≤ -(k:Int);omega) (by show -(k:Int)≤_;omega),MB (by show _≤(k:Int);omega) (by show(k:Int)≤_;omega),MB (by show _ ≤ -(k:Int);omega) (by show -(k:Int)≤_;omega),MB (by show _≤(k:Int);omega) (by show(k:Int)≤_;omega)⟩)
 have hi':i<c.Aa.xs.length:=by omega
 refine⟨w9 i hi', ?_⟩
 have hb:=hLim.qs i hi'
 rw[h.prt.q1 i (by omega) hi']
 exact ZX (p:=fun x=>Bh.ok (New n) W x) (fun k hk=>hN.qs i hi' k hk _ _) (fun k hk=>⟨MB (by show _ ≤ -(k:Int);omega) (by show -(k:Int)≤_;omega),Ae⟩)
end
def Xc(c:Aj)(aH:Option Addr)(cH:Nat)(aC:Option Addr)(cC:Nat)(cs:List (Sl Au))(aW:Option Addr)(cW:Nat)(ws:List (Sl Au))(aP:Option Addr)(cP:Nat)(ps:List Ap)(aR:Option Addr)(cR:Nat)(rs:List (Sl A8))(aQ:Option Addr)(cQ:Nat)(qs:List (Sl Bh)):Hf :=
 ⟨⟨c.Frames,c.CJ,c.Kernel,c.Room,⟨aC,cC - 0,cs.take c.Aq.xs.length⟩,⟨aP,cP - 0,ps.take c.Aa.xs.length⟩,⟨aH,cH - 0,c.Ag.xs⟩⟩,⟨aH,cH,wid DD c.Ag.xs⟩,⟨aC,cC,cs⟩,⟨aW,cW,ws⟩,⟨aP,cP,ps⟩,⟨aR,cR,rs⟩,⟨aQ,cQ,qs⟩⟩
theorem lent_form{c:Aj}{L:Hf}{sp:List (Sl Au)}(h:Oe c L sp):∃ aH cH aC cC cs aW cW ws aP cP ps aR cR rs aQ cQ qs,L=Xc c aH cH aC cC cs aW cW ws aP cP ps aR cR rs aQ cQ qs∧NU c (c.Aq.xs.length+24) cs ws sp∧Oa c (c.Aa.xs.length+24) ps rs qs:=by
 obtain⟨⟨n1,n2,n3,n4⟩,hx,hc,hp,hC,cC,pC⟩:=h
 obtain⟨⟨f,m,k,r,Co,Pa,Ch⟩,⟨aH,cH,xH⟩,⟨aC,c1,cs⟩,⟨aW,cW,ws⟩,⟨aP,cP,ps⟩,⟨aR,cR,rs⟩,⟨aQ,cQ,qs⟩⟩:=L
 simp only at n1 n2 n3 n4 hx hC cC pC
 subst n1 n2 n3 n4 hx hC cC pC
 exact⟨aH,cH,aC,c1,cs,aW,cW,ws,aP,cP,ps,aR,cR,rs,aQ,cQ,qs,rfl,hc,hp⟩
section
variable {c:Aj}{aH aC aW aP aR aQ:Option Addr}{cH cC cW cP cR cQ:Nat}{cs ws sp:List (Sl Au)}{ps:List Ap}{rs:List (Sl A8)}{qs:List (Sl Bh)}
theorem Z4(hc:NU c (c.Aq.xs.length+24) cs ws sp)(hp:Oa c (c.Aa.xs.length+24) ps rs qs):Oe c (Xc c aH cH aC cC cs aW cW ws aP cP ps aR cR rs aQ cQ qs) sp:=⟨⟨rfl,rfl,rfl,rfl⟩,rfl,hc,hp,rfl,rfl,rfl⟩
theorem ZbQ(h1:cs.length=c.Aq.xs.length+24)(h2:ps.length=c.Aa.xs.length+24):Aj.arr (Xc c aH cH aC cC cs aW cW ws aP cP ps aR cR rs aQ cQ qs).C = #[.int .i64 c.Frames,.int .i64 c.CJ,.int .i64 c.Kernel,.int .i64 c.Room,.slice aC c.Aq.xs.length (cC - 0),.slice aP c.Aa.xs.length (cP - 0),.slice aH c.Ag.xs.length (cH - 0)]:=by
 simp only[Xc,Aj.arr,List.length_take]
 rw[show min c.Aq.xs.length cs.length=c.Aq.xs.length from by omega,show min c.Aa.xs.length ps.length=c.Aa.xs.length from by omega]
theorem Zdn(h1:cs.length=c.Aq.xs.length+24)(h2:ps.length=c.Aa.xs.length+24):Hf.arr (Xc c aH cH aC cC cs aW cW ws aP cP ps aR cR rs aQ cQ qs) = #[.int .i64 c.Frames,.int .i64 c.CJ,.int .i64 c.Kernel,.int .i64 c.Room,.slice aC c.Aq.xs.length (cC - 0),.slice aP c.Aa.xs.length (cP - 0),.slice aH c.Ag.xs.length (cH - 0),.slice aH (wid DD c.Ag.xs).length cH,.slice aC cs.length cC,.slice aW ws.length cW,.slice aP ps.length cP,.slice aR rs.length cR,.slice aQ qs.length cQ]:=by
 simp only[Xc,Hf.arr,List.length_take]
 rw[show min c.Aq.xs.length cs.length=c.Aq.xs.length from by omega,show min c.Aa.xs.length ps.length=c.Aa.xs.length from by omega]
theorem PO{n:Nat}:SG n (Xc c aH cH aC cC cs aW cW ws aP cP ps aR cR rs aQ cQ qs) sp=[BJ n 55 3 AL.cells (.slice aH (wid DD c.Ag.xs).length cH) (wid DD c.Ag.xs),BJ n 42 1 (fun x:Sl Au=>[Sl.val x]) (.slice aC cs.length cC) cs,BJ n 42 1 (fun x:Sl Au=>[Sl.val x]) (.slice aW ws.length cW) ws,Be n 44 3 Au.cells ws,Be n 44 3 Au.cells sp,BJ n 41 8 Ap.cells (.slice aP ps.length cP) ps,BJ n 38 1 (fun x:Sl A8=>[Sl.val x]) (.slice aR rs.length cR) rs,Be n 49 4 A8.cells rs,BJ n 39 1 (fun x:Sl Bh=>[Sl.val x]) (.slice aQ qs.length cQ) qs,Be n 57 2 Bh.cells qs]:=rfl
end
def Ij(c:Aj)(m:Int):Aj:={ c with Aa:=⟨c.Aa.a,c.Aa.cap,c.Aa.xs.set 0 { gd c.Aa.xs 0 with Entry:=m }⟩ }
def chgPs(ps:List Ap)(m:Int):List Ap:=ps.set 0 { gd ps 0 with Entry:=m }
def N9(xs:List Au)(u:Int):List Au:=xs.set 0 { gd xs 0 with Ba:=u }
def Kq(c:Aj)(u:Int):Aj:={ c with Aq:=⟨c.Aq.a,c.Aq.cap,c.Aq.xs.set 0 ⟨(gd c.Aq.xs 0).a,(gd c.Aq.xs 0).cap,N9 (gd c.Aq.xs 0).xs u⟩⟩ }
section
variable {c:Aj}{m u:Int}{i:Nat}{cs ws sp:List (Sl Au)}{ps:List Ap}{rs:List (Sl A8)}{qs:List (Sl Bh)}
theorem JE:(Ij c m).Aa.xs.length=c.Aa.xs.length:=List.length_set
theorem L6:(Kq c u).Aq.xs.length=c.Aq.xs.length:=List.length_set
theorem Zcm(h:0<c.Aa.xs.length):gd (Ij c m).Aa.xs 0={ gd c.Aa.xs 0 with Entry:=m }:=JY h
theorem ZaY{q:Nat}(h:q≠0)(hq:q<c.Aa.xs.length):gd (Ij c m).Aa.xs q=gd c.Aa.xs q:=KA (fun e=>h e.symm) hq
theorem ZV(h:0<c.Aq.xs.length):gd (Kq c u).Aq.xs 0=⟨(gd c.Aq.xs 0).a,(gd c.Aq.xs 0).cap,N9 (gd c.Aq.xs 0).xs u⟩:=JY h
theorem YI{q:Nat}(h:q≠0)(hq:q<c.Aq.xs.length):gd (Kq c u).Aq.xs q=gd c.Aq.xs q:=KA (fun e=>h e.symm) hq
theorem OL{ps:List Ap}:(chgPs ps m).length=ps.length:=List.length_set
theorem UB{xs:List Au}:(N9 xs u).length=xs.length:=List.length_set
theorem VF(hq:i<c.Aa.xs.length):(gd (Ij c m).Aa.xs i).Af=(gd c.Aa.xs i).Af∧(gd (Ij c m).Aa.xs i).Am=(gd c.Aa.xs i).Am:=by
 by_cases e:i=0
 ·subst e;rw[Zcm hq];exact⟨rfl,rfl⟩
 rw[ZaY e hq];exact⟨rfl,rfl⟩
theorem chgW_l(hq:i<c.Aq.xs.length):(gd (Kq c u).Aq.xs i).xs.length=(gd c.Aq.xs i).xs.length:=by
 by_cases e:i=0
 ·subst e;rw[ZV hq];exact UB
 rw[YI e hq]
theorem num_chgP(h:Tm c)(hm:Hy .i64 m):Tm (Ij c m):=by
 refine⟨h.nums,h.ws,fun i hi => ?_,fun i hi k hk F W => ?_,fun i hi k hk F W => ?_,h.hs⟩
 ·rw[JE]at hi
  obtain⟨a1,a2,a3,a4,a5,a6⟩:=h.ps i hi
  by_cases e:i=0
  ·subst e;rw[Zcm hi];exact⟨a1,hm,a3,a4,a5,a6⟩
  rw[ZaY e hi];exact⟨a1,a2,a3,a4,a5,a6⟩
 ·rw[JE]at hi
  rw[(VF hi).1]at hk ⊢;exact h.rs i hi k hk F W
 rw[JE]at hi
 rw[(VF hi).2]at hk ⊢;exact h.qs i hi k hk F W
theorem Zcw(h:Tm c)(hu:Hy .i64 u):Tm (Kq c u):=by
 refine⟨h.nums,fun i hi k hk F W => ?_,h.ps,h.rs,h.qs,h.hs⟩
 rw[L6]at hi
 rw[chgW_l hi]at hk
 by_cases e:i=0
 ·subst e
  rw[ZV hi]
  have t:=h.ws 0 hi k hk F W
  by_cases e2:k=0
  ·subst e2
   show Au.ok F W (gd (N9 (gd c.Aq.xs 0).xs u) 0)
   unfold N9;rw[JY hk];exact⟨t.Partition,hu,t.AQ⟩
  show Au.ok F W (gd (N9 (gd c.Aq.xs 0).xs u) k)
  unfold N9;rw[KA (fun e=>e2 e.symm) hk];exact t
 rw[YI e hi];exact h.ws i hi k hk F W
theorem lim_chgP(h:TD c):TD (Ij c m):=by
 refine⟨h.cl,by rw[JE];exact h.pl,h.hl,h.ws,fun i hi => ?_,fun i hi => ?_⟩
 ·rw[JE]at hi;rw[(VF hi).1];exact h.rs i hi
 rw[JE]at hi;rw[(VF hi).2];exact h.qs i hi
theorem ZcN(h:TD c):TD (Kq c u):=by
 refine⟨by rw[L6];exact h.cl,h.pl,h.hl,fun i hi => ?_,h.rs,h.qs⟩
 rw[L6]at hi;rw[chgW_l hi];exact h.ws i hi
theorem cor_chgP(h:NU c i cs ws sp):NU (Ij c m) i cs ws sp:=⟨h.l1,h.l2,h.l3,h.c1,h.w1,h.c2,h.s1⟩
theorem Zcp(h:Oa c i ps rs qs):Oa (Kq c u) i ps rs qs:=⟨h.l1,h.l2,h.l3,h.p1,h.r1,h.q1,h.p2⟩
theorem prt_chgP(h:Oa c i ps rs qs)(h0:0<c.Aa.xs.length)(hi:0<i):Oa (Ij c m) i (chgPs ps m) rs qs:=by
 unfold chgPs
 have l1:=h.l1
 refine⟨by rw[List.length_set];exact h.l1,by rw[JE];exact h.l2,by rw[JE];exact h.l3,fun q h1 h2 => ?_,fun q h1 h2 => ?_,fun q h1 h2 => ?_,fun q h1 h2 => ?_⟩
 ·rw[JE]at h2
  by_cases e:q=0
  ·subst e;rw[JY (by omega),Zcm h0,h.p1 0 h1 h2]
  rw[KA (fun x=>e x.symm) (by omega),ZaY e h2];exact h.p1 q h1 h2
 ·rw[JE]at h2;rw[(VF h2).1];exact h.r1 q h1 h2
 ·rw[JE]at h2;rw[(VF h2).2];exact h.q1 q h1 h2
 rw[JE]at h1
 rw[KA (by omega) (by omega)];exact h.p2 q h1 h2
theorem wid_set{xs:List Au}(h:0<xs.length):N9 (wid Dq xs) u=wid Dq (N9 xs u):=by
 unfold N9
 rw[Wn h]
 unfold wid
 rw[List.set_append_left _ _ h,List.length_set]
theorem Zco(h:NU c i cs ws sp)(h0:0<c.Aq.xs.length)(h1:0<(gd c.Aq.xs 0).xs.length)(hi:0<i){a:Option Addr}{cap:Nat}{xs:List Au}(hx:gd ws 0=⟨a,cap,xs⟩):NU (Kq c u) i (cs.set 0 ⟨a,cap - 0,N9 (gd c.Aq.xs 0).xs u⟩) (ws.set 0 ⟨a,cap,N9 xs u⟩) sp:=by
 have l1:=h.l1
 have l2:=h.l2
 have w0:=h.w1 0 hi h0
 rw[hx]at w0
 refine⟨by rw[List.length_set];exact h.l1,by rw[List.length_set,L6];exact h.l2,by rw[L6];exact h.l3,fun q h2 h3 => ?_,fun q h2 h3 => ?_,fun q h2 h3 => ?_,fun q hq=>by rw[L6];exact h.s1 q hq⟩
 ·rw[L6]at h3
  by_cases e:q=0
  ·subst e;rw[JY (by omega),JY (by omega),ZV h0]
  rw[KA (fun x=>e x.symm) (by omega),KA (fun x=>e x.symm) (by omega),YI e h3];exact h.c1 q h2 h3
 ·rw[L6]at h3
  by_cases e:q=0
  ·subst e;rw[JY (by omega),ZV h0]
   show N9 xs u=wid Dq (N9 (gd c.Aq.xs 0).xs u)
   rw[←wid_set h1,show xs=wid Dq (gd c.Aq.xs 0).xs from w0]
  rw[KA (fun x=>e x.symm) (by omega),YI e h3];exact h.w1 q h2 h3
 rw[L6]at h2 ⊢
 rw[KA (by omega) (by omega)];exact h.c2 q h2 h3
theorem PT{n:Nat}{v:Value}{x:Sl Au}(hx:Sl.val x=Sl.val (gd cs 0)):BJ n 42 1 (fun x:Sl Au=>[Sl.val x]) v (cs.set 0 x)=BJ n 42 1 (fun x:Sl Au=>[Sl.val x]) v cs:=by
 unfold BJ
 have e1:(cs.set 0 x).flatMap (fun x:Sl Au=>[Sl.val x])=cs.flatMap (fun x:Sl Au=>[Sl.val x]):=by
  cases cs with
  | nil=>rfl
  | cons y t=>simp only[List.set_cons_zero,List.flatMap_cons];rw[hx];rfl
 simp only[List.length_set,e1]
end
theorem VO(bs:ByteArray):∀ (n i:Nat) (r:List UInt8),bs.size - i=n→(ByteArray.toList.loop bs i r).length=n+r.length
 | 0,i,r,h=>by
  unfold ByteArray.toList.loop
  rw[if_neg (by omega)];simp
 | n+1,i,r,h=>by
  unfold ByteArray.toList.loop
  rw[if_pos (by omega),VO bs n (i+1) _ (by omega)]
  simp;omega
theorem str_nil{s:ByteArray}(h:s.toList=(⟨#[]⟩:ByteArray).toList):s.size=0:=by
 have h1:=congrArg List.length h
 unfold ByteArray.toList at h1
 rw[VO s s.size 0 [] (by omega),VO (⟨#[]⟩:ByteArray) 0 0 [] (by rfl)]at h1
 simpa using h1
theorem str_pos{s:ByteArray}(h:¬ s.toList=(⟨#[]⟩:ByteArray).toList):0<s.size:=by
 rcases Nat.eq_zero_or_pos s.size with h0 | h0
 ·exfalso
  apply h
  have h1:=VO s s.size 0 [] (by omega)
  have h2:=VO (⟨#[]⟩:ByteArray) 0 0 [] (by rfl)
  unfold ByteArray.toList
  rw[h0]at h1
  rw[List.eq_nil_of_length_eq_zero h1,List.eq_nil_of_length_eq_zero h2]
 exact h0
def GG(c:Aj):Ar:=Bc [G8 c,whole2 c,Gm c,Gn c,FV c]
def Oi(x:Ap):Bool:=win x.Entry 0 4095&&GK x
theorem Zbv{c:Aj}{k:Nat}{p:Int}(hp : -1≤p):Ii c k p=(List.range k).any (fun i=>(List.range (ED c i).xs.length).any (fun n => !decide (p = -1)&&decide ((gd (ED c i).xs n).Partition=p))):=by
 unfold Ii WZ
 congr 1
 funext i
 congr 1
 funext n
 rw[show decide (0≤p) = !decide (p = -1)from by by_cases h:p = -1 <;> simp[h];omega]
theorem G7(w:World)(n a b:Int):Calls Tryd.prog 32 #[.int .i64 n,.int .i64 a,.int .i64 b] w fun e w'=>e = .returned (.bool (win n a b))∧CP (fun _=>False) w w':=by
 obtain⟨z,hz⟩:∃ z,z=w.heap.size:=⟨_,rfl⟩
 refine CE (args:=[i6 n,i6 a,i6 b]) 15 ⟨w,z,[(Ak w)]⟩ Tryd.func32 rfl (by kernel_rfl) (by kernel_rfl) (Ep hz) ?_
 refine DC [0,1,2] [(0,i6 n),(1,i6 a),(2,i6 b)] ?_
 refine Az 5 0 [] [[o0]] [] [(0,i6 n),(1,i6 a),(2,i6 b)] rfl Ae ?_
 by_cases h1:(n:Int)<a
 ·refine Az 4 0 [] [[o0,o0,oF,o0,o0,o0]] [BF ((n:Int)≥a)] [(6,.bool false)] rfl ⟨bf,Ae⟩ ?_
  refine AA [] [] (.bool false) Ae ?_
  intro w2 hw2
  refine⟨congrArg Ending.returned (?_:Value.bool false = .bool (win n a b)),AO hw2⟩
  unfold win;congr 1;simp;omega
 by_cases h3:(b:Int)<n
 ·refine Az 4 0 [] [[o0,o0,oT,o0,o0,o0,oF,o0,o0]] [BT ((n:Int)≥a),BF ((n:Int)≤b)] [(6,.bool false)] rfl ⟨bt,bf,Ae⟩ ?_
  refine AA [] [] (.bool false) Ae ?_
  intro w4 hw4
  refine⟨congrArg Ending.returned (?_:Value.bool false = .bool (win n a b)),AO hw4⟩
  unfold win;congr 1;simp;omega
 refine Az 4 0 [] [[o0,o0,oT,o0,o0,o0,oT,o0,o0]] [BT ((n:Int)≥a),BT ((n:Int)≤b)] [(6,.bool true)] rfl ⟨bt,bt,Ae⟩ ?_
 refine AA [] [] (.bool true) Ae ?_
 intro w5 hw5
 refine⟨congrArg Ending.returned (?_:Value.bool true = .bool (win n a b)),AO hw5⟩
 unfold win;congr 1;simp;omega
theorem YW(w:World)  : Calls Tryd.prog 22 #[] w fun e w'=>e = .returned (.agg #[.int .i64 (-1),.int .i64 (-1)])∧CP (fun _=>False) w w':=by
 obtain⟨z,hz⟩:∃ z,z=w.heap.size:=⟨_,rfl⟩
 refine CE (args:=[]) 2 ⟨w,z,[(Ak w)]⟩ Tryd.func22 rfl (by kernel_rfl) (by kernel_rfl) (Ep hz) ?_
 refine DC [] [] ?_
 refine q_c 9 0 [] [[o0],[o0,(an 2 1)]] [Qb z,Qb z] [(0,pt z)] ⟨w,z+1,[(Ak w),(bk z #[i6 (-1),i6 (-1)] 34)]⟩ rfl ⟨rfl,rfl,Ae⟩ ?_
 refine AA [.at 1,.at 1] [Qb z,Qb z] (.agg #[i6 (-1),i6 (-1)]) ⟨rfl,rfl,Ae⟩ ?_
 intro w1 hw1
 refine⟨congrArg Ending.returned (?_:Value.agg #[i6 (-1),i6 (-1)] = .agg #[i6 (-1),i6 (-1)]),AO hw1⟩
 rfl
theorem JZ(w:World)(n:Int):Calls Tryd.prog 25 #[.int .i64 n] w fun e w'=>e = .returned (.agg #[.int .i64 n,.int .i64 (-1)])∧CP (fun _=>False) w w':=by
 obtain⟨z,hz⟩:∃ z,z=w.heap.size:=⟨_,rfl⟩
 refine CE (args:=[i6 n]) 5 ⟨w,z,[(Ak w)]⟩ Tryd.func25 rfl (by kernel_rfl) (by kernel_rfl) (Ep hz) ?_
 refine DC [0] [(0,i6 n)] ?_
 refine q_c 9 0 [] [[o0],[o0,o0,(an 2 1)]] [Qb z,Qb z] [(2,pt z)] ⟨w,z+1,[(Ak w),(bk z #[i6 n,i6 (-1)] 34)]⟩ rfl ⟨rfl,rfl,Ae⟩ ?_
 refine AA [.at 1,.at 1] [Qb z,Qb z] (.agg #[i6 n,i6 (-1)]) ⟨rfl,rfl,Ae⟩ ?_
 intro w1 hw1
 refine⟨congrArg Ending.returned (?_:Value.agg #[i6 n,i6 (-1)] = .agg #[i6 n,i6 (-1)]),AO hw1⟩
 rfl
theorem Tq(w:World)(a m b o:Int)(h1 : -4611686018427387904≤a∧a≤4611686018427387903)(h2 : -4611686018427387904≤m∧m≤4611686018427387903)(h3 : -4611686018427387904≤b∧b≤4611686018427387903)(h4 : -4611686018427387904≤o∧o≤4611686018427387903):Calls Tryd.prog 38 #[.int .i64 a,.int .i64 m,.int .i64 b,.int .i64 o] w fun e w'=>e = .returned (.bool (meet a m b o))∧CP (fun _=>False) w w':=by
 obtain⟨z,hz⟩:∃ z,z=w.heap.size:=⟨_,rfl⟩
 refine CE (args:=[i6 a,i6 m,i6 b,i6 o]) 21 ⟨w,z,[(Ak w)]⟩ Tryd.func38 rfl (by kernel_rfl) (by kernel_rfl) (Ep hz) ?_
 refine DC [0,1,2,3] [(0,i6 a),(1,i6 m),(2,i6 b),(3,i6 o)] ?_
 refine Az 5 0 [] [[o0]] [] [(0,i6 a),(1,i6 m),(2,i6 b),(3,i6 o)] rfl Ae ?_
 by_cases h1:(a:Int)<b+o
 ·by_cases h2:(b:Int)<a+m
  ·refine Az 4 0 [] [[o0,o0,o0,(ov (i6 (b+o))),oT,o0,o0,o0,o0,(ov (i6 (a+m))),oT,o0,o0]] [Wr ((b:Int)+o) (b+o),BT ((a:Int)<(b+o)),Wr ((a:Int)+m) (a+m),BT ((b:Int)<(a+m))] [(8,.bool true)] rfl ⟨BQ,bt,BQ,bt,Ae⟩ ?_
   refine AA [] [] (.bool true) Ae ?_
   intro w3 hw3
   refine⟨congrArg Ending.returned (?_:Value.bool true = .bool (meet a m b o)),AO hw3⟩
   unfold meet;congr 1;simp;omega
  refine Az 4 0 [] [[o0,o0,o0,(ov (i6 (b+o))),oT,o0,o0,o0,o0,(ov (i6 (a+m))),oF,o0,o0]] [Wr ((b:Int)+o) (b+o),BT ((a:Int)<(b+o)),Wr ((a:Int)+m) (a+m),BF ((b:Int)<(a+m))] [(8,.bool false)] rfl ⟨BQ,bt,BQ,bf,Ae⟩ ?_
  refine AA [] [] (.bool false) Ae ?_
  intro w4 hw4
  refine⟨congrArg Ending.returned (?_:Value.bool false = .bool (meet a m b o)),AO hw4⟩
  unfold meet;congr 1;simp;omega
 refine Az 4 0 [] [[o0,o0,o0,(ov (i6 (b+o))),oF,o0,o0,o0]] [Wr ((b:Int)+o) (b+o),BF ((a:Int)<(b+o))] [(8,.bool false)] rfl ⟨BQ,bf,Ae⟩ ?_
 refine AA [] [] (.bool false) Ae ?_
 intro w5 hw5
 refine⟨congrArg Ending.returned (?_:Value.bool false = .bool (meet a m b o)),AO hw5⟩
 unfold meet;congr 1;simp;omega
theorem ZcM(w:World)(c:Aj)(hc:Aj.ok Any w c):Calls Tryd.prog 21 #[.agg (Aj.arr c)] w fun e w'=>e = .returned (.int .i64 (GG c).e)∧CP (fun _=>False) w w':=by
 obtain⟨z,hz⟩:∃ z,z=w.heap.size:=⟨_,rfl⟩
 refine CE (args:=[.agg (Aj.arr c)]) 30 ⟨w,z,[(Ak w)]⟩ Tryd.func21 rfl (by kernel_rfl) (by kernel_rfl) (Ep hz) ?_
 have hpl:=hc.Aa.1.len;have hpc:=hc.Aq.1.len;have hpch:=hc.Ag.1.len
 refine DC [0] [(0,.agg (Aj.arr c))] ?_
 refine q_c 8 2 [] [[o0,o0],[o0,(a1 1)]] [Qb z] [(1,pt z),(5,i6 c.Frames)] ⟨w,z+1,[(Ak w),(bk z (Aj.arr c) 26)]⟩ rfl ⟨rfl,Ae⟩ ?_
 refine Bf 32 #[i6 c.Frames,i6 1,i6 1024] (some 6) (.bool (win c.Frames 1 1024)) (fun w1 hw1=>G7 w1 c.Frames 1 1024) (fun n2 (hn3:z+1≤n2) => ?_)
 refine Dc [1,6] [(1,pt z),(6,.bool (win c.Frames 1 1024))] ?_
 by_cases h4:(win c.Frames 1 1024)=true
 ·have hd5:=EE h4
  refine BP 5 2 [0] [[(ov (.bool false)),o0],[o0,(a1 1)]] [Value.bool (!(win c.Frames 1 1024))=Value.bool false,Qb z] [(1,pt z),(10,i6 c.CJ)] rfl ⟨by simp[h4],rfl,Ae⟩ ?_
  refine Bf 32 #[i6 c.CJ,i6 1,i6 16384] (some 11) (.bool (win c.CJ 1 16384)) (fun w6 hw6=>G7 w6 c.CJ 1 16384) (fun n7 (hn8:n2≤n7) => ?_)
  refine Dc [1,11] [(1,pt z),(11,.bool (win c.CJ 1 16384))] ?_
  by_cases h9:(win c.CJ 1 16384)=true
  ·have hd10:=EE h9
   refine BP 5 3 [0] [[(ov (.bool false)),o0],[o0,(a1 1),o0]] [Value.bool (!(win c.CJ 1 16384))=Value.bool false,Qb z] [(1,pt z),(16,Ac c.Aq.xs.length)] rfl ⟨by simp[h9],rfl,Ae⟩ ?_
   refine Bf 32 #[(Ac c.Aq.xs.length),i6 1,i6 4] (some 17) (.bool (win (c.Aq.xs.length:Int) 1 4)) (fun w11 hw11=>G7 w11 (c.Aq.xs.length:Int) 1 4) (fun n12 (hn13:n7≤n12) => ?_)
   refine Dc [1,17] [(1,pt z),(17,.bool (win (c.Aq.xs.length:Int) 1 4))] ?_
   by_cases h14:(win (c.Aq.xs.length:Int) 1 4)=true
   ·have hd15:=EE h14
    refine BP 5 3 [0] [[(ov (.bool false)),o0],[o0,(a1 1),o0]] [Value.bool (!(win (c.Aq.xs.length:Int) 1 4))=Value.bool false,Qb z] [(1,pt z),(22,Ac c.Aa.xs.length)] rfl ⟨by simp[h14],rfl,Ae⟩ ?_
    refine Bf 32 #[(Ac c.Aa.xs.length),i6 1,i6 8] (some 23) (.bool (win (c.Aa.xs.length:Int) 1 8)) (fun w16 hw16=>G7 w16 (c.Aa.xs.length:Int) 1 8) (fun n17 (hn18:n12≤n17) => ?_)
    refine Dc [1,23] [(1,pt z),(23,.bool (win (c.Aa.xs.length:Int) 1 8))] ?_
    by_cases h19:(win (c.Aa.xs.length:Int) 1 8)=true
    ·have hd20:=EE h19
     refine BP 4 0 [0] [[(ov (.bool false)),o0]] [Value.bool (!(win (c.Aa.xs.length:Int) 1 8))=Value.bool false] [(1,pt z),(19,.bool false)] rfl ⟨by simp[h19],Ae⟩ ?_
     by_cases h21:(16:Int)<(c.Ag.xs.length:Int)
     ·refine Az 9 0 [1] [[o0,(a1 1),o0,oT,o0],[o0]] [Qb z,BT ((c.Ag.xs.length:Int) > 16)] [(2,i6 404)] rfl ⟨rfl,bt,Ae⟩ ?_
      refine AA [] [] (i6 404) Ae ?_
      intro w22 hw22
      have hE:(GG c).e=404:=by unfold GG G8 whole2 Gm Gn FV;first | (rw[decide_eq_true (by omega)];simp[Bc,Ah,Bg,h4,h9,h14,h19]) | (rw[decide_eq_false (by omega)];simp[Bc,Ah,Bg,h4,h9,h14,h19]) | simp[Bc,Ah,Bg,h4,h9,h14,h19]
      exact⟨congrArg (fun n=>Ending.returned (i6 n)) hE.symm,AO hw22⟩
     refine Az 12 0 [0] [[o0,(a1 1),o0,oF,o0],[o0]] [Qb z,BF ((c.Ag.xs.length:Int) > 16)] [(2,i6 0)] rfl ⟨rfl,bf,Ae⟩ ?_
     refine AA [] [] (i6 0) Ae ?_
     intro w23 hw23
     have hE:(GG c).e=0:=by unfold GG G8 whole2 Gm Gn FV;first | (rw[decide_eq_true (by omega)];simp[Bc,Ah,Bg,h4,h9,h14,h19]) | (rw[decide_eq_false (by omega)];simp[Bc,Ah,Bg,h4,h9,h14,h19]) | simp[Bc,Ah,Bg,h4,h9,h14,h19]
     exact⟨congrArg (fun n=>Ending.returned (i6 n)) hE.symm,AO hw23⟩
    have hd24:=FQ h19
    refine BP 8 0 [1] [[(ov (.bool true)),o0],[o0]] [Value.bool (!(win (c.Aa.xs.length:Int) 1 8))=Value.bool true] [(2,i6 403)] rfl ⟨by simp[h19],Ae⟩ ?_
    refine AA [] [] (i6 403) Ae ?_
    intro w25 hw25
    have hE:(GG c).e=403:=by unfold GG G8 whole2 Gm Gn FV;first | (rw[decide_eq_true (by omega)];simp[Bc,Ah,Bg,h4,h9,h14,h19]) | (rw[decide_eq_false (by omega)];simp[Bc,Ah,Bg,h4,h9,h14,h19]) | simp[Bc,Ah,Bg,h4,h9,h14,h19]
    exact⟨congrArg (fun n=>Ending.returned (i6 n)) hE.symm,AO hw25⟩
   have hd26:=FQ h14
   refine BP 8 0 [1] [[(ov (.bool true)),o0],[o0]] [Value.bool (!(win (c.Aq.xs.length:Int) 1 4))=Value.bool true] [(2,i6 402)] rfl ⟨by simp[h14],Ae⟩ ?_
   refine AA [] [] (i6 402) Ae ?_
   intro w27 hw27
   have hE:(GG c).e=402:=by unfold GG G8 whole2 Gm Gn FV;first | (rw[decide_eq_true (by omega)];simp[Bc,Ah,Bg,h4,h9,h14]) | (rw[decide_eq_false (by omega)];simp[Bc,Ah,Bg,h4,h9,h14]) | simp[Bc,Ah,Bg,h4,h9,h14]
   exact⟨congrArg (fun n=>Ending.returned (i6 n)) hE.symm,AO hw27⟩
  have hd28:=FQ h9
  refine BP 8 0 [1] [[(ov (.bool true)),o0],[o0]] [Value.bool (!(win c.CJ 1 16384))=Value.bool true] [(2,i6 401)] rfl ⟨by simp[h9],Ae⟩ ?_
  refine AA [] [] (i6 401) Ae ?_
  intro w29 hw29
  have hE:(GG c).e=401:=by unfold GG G8 whole2 Gm Gn FV;first | (rw[decide_eq_true (by omega)];simp[Bc,Ah,Bg,h4,h9]) | (rw[decide_eq_false (by omega)];simp[Bc,Ah,Bg,h4,h9]) | simp[Bc,Ah,Bg,h4,h9]
  exact⟨congrArg (fun n=>Ending.returned (i6 n)) hE.symm,AO hw29⟩
 have hd30:=FQ h4
 refine BP 8 0 [1] [[(ov (.bool true)),o0],[o0]] [Value.bool (!(win c.Frames 1 1024))=Value.bool true] [(2,i6 400)] rfl ⟨by simp[h4],Ae⟩ ?_
 refine AA [] [] (i6 400) Ae ?_
 intro w31 hw31
 have hE:(GG c).e=400:=by unfold GG G8 whole2 Gm Gn FV;first | (rw[decide_eq_true (by omega)];simp[Bc,Ah,Bg,h4]) | (rw[decide_eq_false (by omega)];simp[Bc,Ah,Bg,h4]) | simp[Bc,Ah,Bg,h4]
 exact⟨congrArg (fun n=>Ending.returned (i6 n)) hE.symm,AO hw31⟩
section
variable (k:Nat)
abbrev UC:=(3,i6 ((k+1:Nat):Int))
end
theorem Zb4(w:World)(s:ByteArray)(hs:s.size≤140737488351232):Calls Tryd.prog 62 #[.string s] w fun e w'=>e = .returned (.bool (EL s))∧CP (fun _=>False) w w':=by
 obtain⟨z,hz⟩:∃ z,z=w.heap.size:=⟨_,rfl⟩
 refine CE (args:=[.string s]) 49 ⟨w,z,[(Ak w)]⟩ Tryd.func62 rfl (by kernel_rfl) (by kernel_rfl) (Ep hz) ?_
 refine DC [0] [(0,.string s)] ?_
 refine Az 6 0 [] [[o0]] [] [(0,.string s)] rfl Ae ?_
 by_cases h1:s.toList=(⟨#[]⟩:ByteArray).toList
 ·have hz:=str_nil h1
  refine Az 9 0 [1] [[o0,(ov (.bool true)),o0,o0,o0,o0,o0,o0],[o0]] [Value.bool ((s.toList==(⟨#[]⟩:ByteArray).toList))=Value.bool true] [(2,.bool false)] rfl ⟨congrArg (fun t=>Value.bool (t)) (beq_iff_eq.2 h1),Ae⟩ ?_
  refine AA [] [] (.bool false) Ae ?_
  intro w2 hw2
  refine⟨congrArg (fun b=>Ending.returned (Value.bool b)) (?_:false=EL s),AO hw2⟩
  refine Eq.symm ?_
  unfold EL UM win
  rw[Bool.and_eq_false_iff];left;simp;(try omega)
 have hz:=str_pos h1
 by_cases h3:(16:Int)<(s.size:Int)
 ·refine Az 9 0 [1] [[o0,(ov (.bool false)),o0,o0,o0,oT,o0,o0,o0,o0,o0],[o0]] [Value.bool ((s.toList==(⟨#[]⟩:ByteArray).toList))=Value.bool false,BT ((s.size:Int) > 16)] [(2,.bool false)] rfl ⟨congrArg (fun t=>Value.bool (t)) (beq_eq_false_iff_ne.2 h1),bt,Ae⟩ ?_
  refine AA [] [] (.bool false) Ae ?_
  intro w4 hw4
  refine⟨congrArg (fun b=>Ending.returned (Value.bool b)) (?_:false=EL s),AO hw4⟩
  refine Eq.symm ?_
  unfold EL UM win
  rw[Bool.and_eq_false_iff];left;simp;(try omega)
 by_cases h5:(((Ea s 0).toNat:Int):Int)<97
 ·refine Az 9 0 [1] [[o0,(ov (.bool false)),o0,o0,o0,oF,o0,o0,o0,⟨.sidx (Ea s 0),none⟩,oT,o0,o0,o0],[o0]] [Value.bool ((s.toList==(⟨#[]⟩:ByteArray).toList))=Value.bool false,BF ((s.size:Int) > 16),0≤(0:Int),s[(0:Int).toNat]? = some (Ea s 0),BT ((((Ea s 0).toNat:Int):Int)<97)] [(2,.bool false)] rfl ⟨congrArg (fun t=>Value.bool (t)) (beq_eq_false_iff_ne.2 h1),bf,(by omega),Pz rfl (by omega),bt,Ae⟩ ?_
  refine AA [] [] (.bool false) Ae ?_
  intro w6 hw6
  refine⟨congrArg (fun b=>Ending.returned (Value.bool b)) (?_:false=EL s),AO hw6⟩
  refine Eq.symm ?_
  unfold EL UM win
  rw[Bool.and_eq_false_iff];left;simp;(try omega)
 by_cases h7:(122:Int)<((Ea s 0).toNat:Int)
 ·refine Az 9 0 [1] [[o0,(ov (.bool false)),o0,o0,o0,oF,o0,o0,o0,⟨.sidx (Ea s 0),none⟩,oF,o0,o0,o0,⟨.sidx (Ea s 0),none⟩,oT,o0],[o0]] [Value.bool ((s.toList==(⟨#[]⟩:ByteArray).toList))=Value.bool false,BF ((s.size:Int) > 16),0≤(0:Int),s[(0:Int).toNat]? = some (Ea s 0),BF ((((Ea s 0).toNat:Int):Int)<97),0≤(0:Int),s[(0:Int).toNat]? = some (Ea s 0),BT ((((Ea s 0).toNat:Int):Int) > 122)] [(2,.bool false)] rfl ⟨congrArg (fun t=>Value.bool (t)) (beq_eq_false_iff_ne.2 h1),bf,(by omega),Pz rfl (by omega),bf,(by omega),Pz rfl (by omega),bt,Ae⟩ ?_
  refine AA [] [] (.bool false) Ae ?_
  intro w8 hw8
  refine⟨congrArg (fun b=>Ending.returned (Value.bool b)) (?_:false=EL s),AO hw8⟩
  refine Eq.symm ?_
  unfold EL UM win
  rw[Bool.and_eq_false_iff];left;simp;(try omega)
 refine Az 12 0 [0] [[o0,(ov (.bool false)),o0,o0,o0,oF,o0,o0,o0,⟨.sidx (Ea s 0),none⟩,oF,o0,o0,o0,⟨.sidx (Ea s 0),none⟩,oF,o0],[o0]] [Value.bool ((s.toList==(⟨#[]⟩:ByteArray).toList))=Value.bool false,BF ((s.size:Int) > 16),0≤(0:Int),s[(0:Int).toNat]? = some (Ea s 0),BF ((((Ea s 0).toNat:Int):Int)<97),0≤(0:Int),s[(0:Int).toNat]? = some (Ea s 0),BF ((((Ea s 0).toNat:Int):Int) > 122)] [(0,.string s),(3,i6 0)] rfl ⟨congrArg (fun t=>Value.bool (t)) (beq_eq_false_iff_ne.2 h1),bf,(by omega),Pz rfl (by omega),bf,(by omega),Pz rfl (by omega),bf,Ae⟩ ?_
 refine Di (fun m a w'=>∃ (n10:Nat) (k:Nat),m=s.size - k∧z≤n10∧(k≤s.size)∧(∀ i,i<k→nameB (Ea s i)=true)∧St 49 [(0,.string s),(3,Ac k)] [] ⟨w,n10,[(Ak w)]⟩ a w') (s.size - 0) ?_ ?_
 ·intro a w' hs;exact⟨z,0,rfl,Nat.le_refl _,Nat.zero_le _,fun i hi=>absurd hi (Nat.not_lt_zero i),hs⟩
 rintro m a w' ⟨n10,k,rfl,hn9,hkk,hf,hs⟩
 refine(?_:G Tryd.prog 49 [(0,.string s),(3,Ac k)] [] ⟨w,n10,[(Ak w)]⟩ _ _ _) a w' hs
 clear hs a w'
 refine Ce <| Ce ?_
 by_cases h11:(k:Int)<(s.size:Int)
 ·refine Az 13 0 [1] [[o0,o0,o0,oT],[o0,o0,⟨.sidx (Ea s k),none⟩,o0]] [BT ((k:Int)<(s.size:Int)),0≤(k:Int),s[(k:Int).toNat]? = some (Ea s k)] [(0,.string s),(3,Ac k),(4,.int .u8 ((Ea s k).toNat:Int))] rfl ⟨bt,(by omega),Pz rfl (by omega),Ae⟩ ?_
  by_cases h12:(((Ea s k).toNat:Int):Int)<97
  ·by_cases h13:(((Ea s k).toNat:Int):Int)<48
   ·by_cases h14:(((Ea s k).toNat:Int):Int)=45
    ·refine Az 9 0 [0] [[o0,oT,o0,o0,o0,o0,oT,o0,o0,o0,o0,o0,oF,o0],[o0,(ov (i6 ((k+1:Nat):Int))),o0]] [BT ((((Ea s k).toNat:Int):Int)<97),BT ((((Ea s k).toNat:Int):Int)<48),NF ((Ea s k).toNat:Int) 45,Wr ((k:Int)+1) (((k+1:Nat):Int))] [(0,.string s),(UC k)] rfl ⟨bt,bt,nf,BQ,Ae⟩ ?_
     refine BD (fun a w' hs=>⟨s.size - (k+1),by omega,n10,(k+1),rfl,by omega,by omega,Fh hf (by unfold nameB win;simp;omega),hs⟩)
    refine Az 9 0 [1] [[o0,oT,o0,o0,o0,o0,oT,o0,o0,o0,o0,o0,oT,o0],[o0]] [BT ((((Ea s k).toNat:Int):Int)<97),BT ((((Ea s k).toNat:Int):Int)<48),NT ((Ea s k).toNat:Int) 45] [(2,.bool false)] rfl ⟨bt,bt,nt,Ae⟩ ?_
    refine AA [] [] (.bool false) Ae ?_
    intro w15 hw15
    refine⟨congrArg (fun b=>Ending.returned (Value.bool b)) (?_:false=EL s),AO hw15⟩
    refine Eq.symm ?_
    unfold EL
    rw[MS (k:=k) (by omega) (by unfold nameB win;simp;omega),Bool.and_false]
   by_cases h16:(57:Int)<((Ea s k).toNat:Int)
   ·by_cases h17:(((Ea s k).toNat:Int):Int)=45
    ·refine Az 9 0 [0] [[o0,oT,o0,o0,o0,o0,oF,o0,o0,oT,o0,o0,o0,o0,oF,o0],[o0,(ov (i6 ((k+1:Nat):Int))),o0]] [BT ((((Ea s k).toNat:Int):Int)<97),BF ((((Ea s k).toNat:Int):Int)<48),BT ((((Ea s k).toNat:Int):Int) > 57),NF ((Ea s k).toNat:Int) 45,Wr ((k:Int)+1) (((k+1:Nat):Int))] [(0,.string s),(UC k)] rfl ⟨bt,bf,bt,nf,BQ,Ae⟩ ?_
     refine BD (fun a w' hs=>⟨s.size - (k+1),by omega,n10,(k+1),rfl,by omega,by omega,Fh hf (by unfold nameB win;simp;omega),hs⟩)
    refine Az 9 0 [1] [[o0,oT,o0,o0,o0,o0,oF,o0,o0,oT,o0,o0,o0,o0,oT,o0],[o0]] [BT ((((Ea s k).toNat:Int):Int)<97),BF ((((Ea s k).toNat:Int):Int)<48),BT ((((Ea s k).toNat:Int):Int) > 57),NT ((Ea s k).toNat:Int) 45] [(2,.bool false)] rfl ⟨bt,bf,bt,nt,Ae⟩ ?_
    refine AA [] [] (.bool false) Ae ?_
    intro w18 hw18
    refine⟨congrArg (fun b=>Ending.returned (Value.bool b)) (?_:false=EL s),AO hw18⟩
    refine Eq.symm ?_
    unfold EL
    rw[MS (k:=k) (by omega) (by unfold nameB win;simp;omega),Bool.and_false]
   refine Az 9 0 [0] [[o0,oT,o0,o0,o0,o0,oF,o0,o0,oF,o0,o0,o0,o0],[o0,(ov (i6 ((k+1:Nat):Int))),o0]] [BT ((((Ea s k).toNat:Int):Int)<97),BF ((((Ea s k).toNat:Int):Int)<48),BF ((((Ea s k).toNat:Int):Int) > 57),Wr ((k:Int)+1) (((k+1:Nat):Int))] [(0,.string s),(UC k)] rfl ⟨bt,bf,bf,BQ,Ae⟩ ?_
   refine BD (fun a w' hs=>⟨s.size - (k+1),by omega,n10,(k+1),rfl,by omega,by omega,Fh hf (by unfold nameB win;simp;omega),hs⟩)
  by_cases h19:(122:Int)<((Ea s k).toNat:Int)
  ·by_cases h20:(((Ea s k).toNat:Int):Int)<48
   ·by_cases h21:(((Ea s k).toNat:Int):Int)=45
    ·refine Az 9 0 [0] [[o0,oF,o0,o0,oT,o0,o0,o0,oT,o0,o0,o0,o0,o0,oF,o0],[o0,(ov (i6 ((k+1:Nat):Int))),o0]] [BF ((((Ea s k).toNat:Int):Int)<97),BT ((((Ea s k).toNat:Int):Int) > 122),BT ((((Ea s k).toNat:Int):Int)<48),NF ((Ea s k).toNat:Int) 45,Wr ((k:Int)+1) (((k+1:Nat):Int))] [(0,.string s),(UC k)] rfl ⟨bf,bt,bt,nf,BQ,Ae⟩ ?_
     refine BD (fun a w' hs=>⟨s.size - (k+1),by omega,n10,(k+1),rfl,by omega,by omega,Fh hf (by unfold nameB win;simp;omega),hs⟩)
    refine Az 9 0 [1] [[o0,oF,o0,o0,oT,o0,o0,o0,oT,o0,o0,o0,o0,o0,oT,o0],[o0]] [BF ((((Ea s k).toNat:Int):Int)<97),BT ((((Ea s k).toNat:Int):Int) > 122),BT ((((Ea s k).toNat:Int):Int)<48),NT ((Ea s k).toNat:Int) 45] [(2,.bool false)] rfl ⟨bf,bt,bt,nt,Ae⟩ ?_
    refine AA [] [] (.bool false) Ae ?_
    intro w22 hw22
    refine⟨congrArg (fun b=>Ending.returned (Value.bool b)) (?_:false=EL s),AO hw22⟩
    refine Eq.symm ?_
    unfold EL
    rw[MS (k:=k) (by omega) (by unfold nameB win;simp;omega),Bool.and_false]
   by_cases h23:(57:Int)<((Ea s k).toNat:Int)
   ·by_cases h24:(((Ea s k).toNat:Int):Int)=45
    ·refine Az 9 0 [0] [[o0,oF,o0,o0,oT,o0,o0,o0,oF,o0,o0,oT,o0,o0,o0,o0,oF,o0],[o0,(ov (i6 ((k+1:Nat):Int))),o0]] [BF ((((Ea s k).toNat:Int):Int)<97),BT ((((Ea s k).toNat:Int):Int) > 122),BF ((((Ea s k).toNat:Int):Int)<48),BT ((((Ea s k).toNat:Int):Int) > 57),NF ((Ea s k).toNat:Int) 45,Wr ((k:Int)+1) (((k+1:Nat):Int))] [(0,.string s),(UC k)] rfl ⟨bf,bt,bf,bt,nf,BQ,Ae⟩ ?_
     refine BD (fun a w' hs=>⟨s.size - (k+1),by omega,n10,(k+1),rfl,by omega,by omega,Fh hf (by unfold nameB win;simp;omega),hs⟩)
    refine Az 9 0 [1] [[o0,oF,o0,o0,oT,o0,o0,o0,oF,o0,o0,oT,o0,o0,o0,o0,oT,o0],[o0]] [BF ((((Ea s k).toNat:Int):Int)<97),BT ((((Ea s k).toNat:Int):Int) > 122),BF ((((Ea s k).toNat:Int):Int)<48),BT ((((Ea s k).toNat:Int):Int) > 57),NT ((Ea s k).toNat:Int) 45] [(2,.bool false)] rfl ⟨bf,bt,bf,bt,nt,Ae⟩ ?_
    refine AA [] [] (.bool false) Ae ?_
    intro w25 hw25
    refine⟨congrArg (fun b=>Ending.returned (Value.bool b)) (?_:false=EL s),AO hw25⟩
    refine Eq.symm ?_
    unfold EL
    rw[MS (k:=k) (by omega) (by unfold nameB win;simp;omega),Bool.and_false]
   refine Az 9 0 [0] [[o0,oF,o0,o0,oT,o0,o0,o0,oF,o0,o0,oF,o0,o0,o0,o0],[o0,(ov (i6 ((k+1:Nat):Int))),o0]] [BF ((((Ea s k).toNat:Int):Int)<97),BT ((((Ea s k).toNat:Int):Int) > 122),BF ((((Ea s k).toNat:Int):Int)<48),BF ((((Ea s k).toNat:Int):Int) > 57),Wr ((k:Int)+1) (((k+1:Nat):Int))] [(0,.string s),(UC k)] rfl ⟨bf,bt,bf,bf,BQ,Ae⟩ ?_
   refine BD (fun a w' hs=>⟨s.size - (k+1),by omega,n10,(k+1),rfl,by omega,by omega,Fh hf (by unfold nameB win;simp;omega),hs⟩)
  refine Az 9 0 [0] [[o0,oF,o0,o0,oF,o0,o0,o0,o0,o0],[o0,(ov (i6 ((k+1:Nat):Int))),o0]] [BF ((((Ea s k).toNat:Int):Int)<97),BF ((((Ea s k).toNat:Int):Int) > 122),Wr ((k:Int)+1) (((k+1:Nat):Int))] [(0,.string s),(UC k)] rfl ⟨bf,bf,BQ,Ae⟩ ?_
  refine BD (fun a w' hs=>⟨s.size - (k+1),by omega,n10,(k+1),rfl,by omega,by omega,Fh hf (by unfold nameB win;simp;omega),hs⟩)
 refine Az 14 0 [0] [[o0,o0,o0,oF],[o0]] [BF ((k:Int)<(s.size:Int))] [(2,.bool true)] rfl ⟨bf,Ae⟩ ?_
 refine AA [] [] (.bool true) Ae ?_
 intro w26 hw26
 refine⟨congrArg (fun b=>Ending.returned (Value.bool b)) (?_:true=EL s),AO hw26⟩
 refine Eq.symm ?_
 unfold EL
 rw[Vg (fun i hi=>hf i (by omega))]
 unfold UM win;simp;omega
section
variable (z:Nat)(c:Aj)
abbrev XJ:=bk z (Aj.arr c) 26
end
theorem ZbV(w:World)(c:Aj)(hc:Aj.ok Any w c)(p:Nat)(hp:p<c.Aa.xs.length):Calls Tryd.prog 33 #[.agg (Aj.arr c),.int .i64 (p:Int)] w fun e w'=>e = .returned (.bool (AX c p))∧CP (fun _=>False) w w':=by
 obtain⟨z,hz⟩:∃ z,z=w.heap.size:=⟨_,rfl⟩
 refine CE (args:=[.agg (Aj.arr c),Ac p]) 31 ⟨w,z,[(Ak w)]⟩ Tryd.func33 rfl (by kernel_rfl) (by kernel_rfl) (Ep hz) ?_
 have hpl:=hc.Aa.1.len;have hpc:=hc.Aa.1.le
 refine DC [0,1] [(0,.agg (Aj.arr c)),(1,Ac p)] ?_
 refine q_c 10 0 [] [[o0,o0],[o0]] [] [(1,Ac p),(2,pt z),(5,i6 0)] ⟨w,z+1,[(Ak w),(XJ z c)]⟩ rfl Ae ?_
 refine Di (fun m a w'=>∃ (n2:Nat) (k:Nat),m=p - k∧z+1≤n2∧(k≤p)∧(∀ i,i<k→(!((EQ c i).Name.toList==(EQ c p).Name.toList))=true)∧St 31 [(1,Ac p),(2,pt z),(5,Ac k)] [] ⟨w,n2,[(Ak w),(XJ z c)]⟩ a w') (p - 0) ?_ ?_
 ·intro a w' hs;exact⟨(z+1),0,rfl,Nat.le_refl _,Nat.zero_le _,fun i hi=>absurd hi (Nat.not_lt_zero i),hs⟩
 rintro m a w' ⟨n2,k,rfl,hn1,hkk,hf,hs⟩
 refine(?_:G Tryd.prog 31 [(1,Ac p),(2,pt z),(5,Ac k)] [] ⟨w,n2,[(Ak w),(XJ z c)]⟩ _ _ _) a w' hs
 clear hs a w'
 refine Ce <| Ce ?_
 by_cases h3:(k:Int)<(p:Int)
 ·refine Az 9 0 [1] [[o0,o0,oT]] [BT ((k:Int)<(p:Int))] [(1,Ac p),(2,pt z),(5,Ac k),(8,.bool true)] rfl ⟨bt,Ae⟩ ?_
  obtain⟨b4,o5,ha6,hF8,hc7⟩:=(hc.Aa).1.all (show 0<c.Aa.xs.length by omega)
  replace ha6:c.Aa.a=some ⟨b4,o5,none⟩:=ha6
  have hc9:=hc7 k (show k<c.Aa.xs.length by omega)
  have he10:=(hc.Aa).2 k (show k<c.Aa.xs.length by omega)
  obtain⟨y11,hy11⟩:∃ y_,y_=gd c.Aa.xs k:=⟨_,rfl⟩
  rw[←hy11]at he10 hc9
  have hc12:=hc7 p (show p<c.Aa.xs.length by omega)
  have he13:=(hc.Aa).2 p (show p<c.Aa.xs.length by omega)
  obtain⟨y14,hy14⟩:∃ y_,y_=gd c.Aa.xs p:=⟨_,rfl⟩
  rw[←hy14]at he13 hc12
  by_cases h15:y11.Name.toList=y14.Name.toList
  ·refine Eh 13 [0,1] [(Ak w),(XJ z c)] rfl rfl ?_
   refine Dj [(0,o0),(1,(DN 1 b4 o5 c.Aa)),(2,o0),(3,(oi k)),(4,o0),(5,(oa [.via 0 (.string y11.Name)])),(6,o0),(7,(DN 1 b4 o5 c.Aa)),(8,o0),(9,(oi p)),(10,o0),(11,(oa [.via 0 (.string y14.Name)])),(12,(ov (.bool true)))] [1,2,5,23] [Qb z,Dh b4 o5 c.Aa,Ci k,k<c.Aa.xs.length,BN,Old w b4 (o5+k*8) (.string y11.Name),Qb z,Dh b4 o5 c.Aa,Ci p,p<c.Aa.xs.length,BN,Old w b4 (o5+p*8) (.string y14.Name),Value.bool ((y11.Name.toList==y14.Name.toList))=Value.bool true] (DF 13 0) [(1,Ac p),(2,pt z),(5,Ac k),(23,.bool true)] ⟨rfl,Df ha6,rfl,(by omega),rfl,A7 (hc9 0 _ rfl),rfl,Df ha6,rfl,(by omega),rfl,A7 (hc12 0 _ rfl),congrArg (fun t=>Value.bool (t)) (beq_iff_eq.2 h15),Ae⟩ ?_
   refine CU ?_
   refine Jw 7 0 [1] [[o0]] [] [(4,.bool false)] rfl Ae ?_
   refine AA [] [] (.bool false) Ae ?_
   intro w16 hw16
   refine⟨congrArg (fun b=>Ending.returned (Value.bool b)) (?_:false=AX c p),AO hw16⟩
   refine Eq.symm ?_
   unfold AX
   rw[MS (k:=k) (by omega) (by dsimp only[EQ];rw[←hy11,←hy14,beq_iff_eq.2 h15];rfl),Bool.false_and]
  refine Eh 13 [0,1] [(Ak w),(XJ z c)] rfl rfl ?_
  refine Dj [(0,o0),(1,(DN 1 b4 o5 c.Aa)),(2,o0),(3,(oi k)),(4,o0),(5,(oa [.via 0 (.string y11.Name)])),(6,o0),(7,(DN 1 b4 o5 c.Aa)),(8,o0),(9,(oi p)),(10,o0),(11,(oa [.via 0 (.string y14.Name)])),(12,(ov (.bool false)))] [1,2,5,23] [Qb z,Dh b4 o5 c.Aa,Ci k,k<c.Aa.xs.length,BN,Old w b4 (o5+k*8) (.string y11.Name),Qb z,Dh b4 o5 c.Aa,Ci p,p<c.Aa.xs.length,BN,Old w b4 (o5+p*8) (.string y14.Name),Value.bool ((y11.Name.toList==y14.Name.toList))=Value.bool false] (DF 13 0) [(1,Ac p),(2,pt z),(5,Ac k),(23,.bool false)] ⟨rfl,Df ha6,rfl,(by omega),rfl,A7 (hc9 0 _ rfl),rfl,Df ha6,rfl,(by omega),rfl,A7 (hc12 0 _ rfl),congrArg (fun t=>Value.bool (t)) (beq_eq_false_iff_ne.2 h15),Ae⟩ ?_
  refine CU ?_
  refine Jw 7 0 [0] [[o0,(ov (i6 ((k+1:Nat):Int))),o0]] [Wr ((k:Int)+1) (((k+1:Nat):Int))] [(1,Ac p),(2,pt z),(5,i6 ((k+1:Nat):Int))] rfl ⟨BQ,Ae⟩ ?_
  refine BD (fun a w' hs=>⟨p - (k+1),by omega,n2,(k+1),rfl,by omega,by omega,Fh hf (by dsimp only[EQ];rw[←hy11,←hy14,beq_eq_false_iff_ne.2 h15];rfl),hs⟩)
 refine Az 10 0 [0] [[o0,o0,oF]] [BF ((k:Int)<(p:Int))] [(1,Ac p),(2,pt z),(5,Ac k),(8,.bool false)] rfl ⟨bf,Ae⟩ ?_
 obtain⟨b17,o18,ha19,hF21,hc20⟩:=(hc.Aa).1.all (show 0<c.Aa.xs.length by omega)
 replace ha19:c.Aa.a=some ⟨b17,o18,none⟩:=ha19
 have hc22:=hc20 p (show p<c.Aa.xs.length by omega)
 have he23:=(hc.Aa).2 p (show p<c.Aa.xs.length by omega)
 obtain⟨y24,hy24⟩:∃ y_,y_=gd c.Aa.xs p:=⟨_,rfl⟩
 rw[←hy24]at he23 hc22
 refine Az 1 6 [] [[o0,(DN 1 b17 o18 c.Aa),o0,(oi p),o0,(oa [.via 0 (.string y24.Name)])]] [Qb z,Dh b17 o18 c.Aa,Ci p,p<c.Aa.xs.length,BN,Old w b17 (o18+p*8) (.string y24.Name)] [(29,.string y24.Name)] rfl ⟨rfl,Df ha19,rfl,(by omega),rfl,A7 (hc22 0 _ rfl),Ae⟩ ?_
 refine Bf 62 #[.string y24.Name] (some 30) (.bool (EL y24.Name)) (fun w25 hw25=>Zb4 w25 y24.Name he23.Name) (fun n26 (hn27:n2≤n26) => ?_)
 refine BP 3 0 [] [[o0]] [] [(4,.bool (EL y24.Name))] rfl Ae ?_
 refine AA [] [] (.bool (EL y24.Name)) Ae ?_
 intro w28 hw28
 refine⟨congrArg (fun b=>Ending.returned (Value.bool b)) (?_:EL y24.Name=AX c p),AO hw28⟩
 refine Eq.symm ?_
 unfold AX
 rw[Vg (fun i hi=>hf i (by omega)),Bool.true_and];dsimp only[EQ];rw[←hy24]
section
variable (z:Nat)(x:Ap)
abbrev VQ:=bk z (Ap.arr x) 41
end
theorem ZbO(w:World)(x:Ap)(hx:Ap.ok Any w x)(hr:∀ k,k<x.Af.xs.length→(0≤(gd x.Af.xs k).Bj∧(gd x.Af.xs k).Bj≤255)∧(1≤(gd x.Af.xs k).AV∧(gd x.Af.xs k).AV≤256)):Calls Tryd.prog 35 #[.agg (Ap.arr x)] w fun e w'=>e = .returned (.bool (Oi x))∧CP (fun _=>False) w w':=by
 obtain⟨z,hz⟩:∃ z,z=w.heap.size:=⟨_,rfl⟩
 refine CE (args:=[.agg (Ap.arr x)]) 39 ⟨w,z,[(Ak w)]⟩ Tryd.func35 rfl (by kernel_rfl) (by kernel_rfl) (Ep hz) ?_
 have hpl:=hx.Af.1.len;have hxe:(-9223372036854775808:Int)≤x.Entry∧x.Entry≤9223372036854775807:=hx.Entry
 refine DC [0] [(0,.agg (Ap.arr x))] ?_
 refine q_c 7 2 [] [[o0,o0],[o0,(a1 1)]] [Qb z] [(1,pt z),(6,i6 x.Entry)] ⟨w,z+1,[(Ak w),(VQ z x)]⟩ rfl ⟨rfl,Ae⟩ ?_
 refine Bf 32 #[i6 x.Entry,i6 0,i6 4095] (some 7) (.bool (win x.Entry 0 4095)) (fun w1 hw1=>G7 w1 x.Entry 0 4095) (fun n2 (hn3:z+1≤n2) => ?_)
 refine Dc [1,7] [(1,pt z),(7,.bool (win x.Entry 0 4095))] ?_
 by_cases h4:(win x.Entry 0 4095)=true
 ·have hd5:=EE h4
  refine BP 11 0 [0] [[(ov (.bool false))],[o0]] [Value.bool (!(win x.Entry 0 4095))=Value.bool false] [(1,pt z),(3,i6 0)] rfl ⟨by simp[h4],Ae⟩ ?_
  refine Di (fun m a w'=>∃ (n7:Nat) (k:Nat),m=x.Af.xs.length - k∧n2≤n7∧(k≤x.Af.xs.length)∧(∀ i,i<k→Sj x i=false)∧St 39 [(1,pt z),(3,Ac k)] [] ⟨w,n7,[(Ak w),(VQ z x)]⟩ a w') (x.Af.xs.length - 0) ?_ ?_
  ·intro a w' hs;exact⟨n2,0,rfl,Nat.le_refl _,Nat.zero_le _,fun i hi=>absurd hi (Nat.not_lt_zero i),hs⟩
  rintro m a w' ⟨n7,k,rfl,hn6,hkk,hf,hs⟩
  refine(?_:G Tryd.prog 39 [(1,pt z),(3,Ac k)] [] ⟨w,n7,[(Ak w),(VQ z x)]⟩ _ _ _) a w' hs
  clear hs a w'
  have hxw:=EE h4
  refine Ce <| Ce ?_
  by_cases h8:(k:Int)<(x.Af.xs.length:Int)
  ·refine Az 9 0 [1] [[o0,o0,(a1 1),o0,oT]] [Qb z,BT ((k:Int)<(x.Af.xs.length:Int))] [(1,pt z),(3,Ac k),(13,.bool true)] rfl ⟨rfl,bt,Ae⟩ ?_
   obtain⟨b9,o10,ha11,hF13,hc12⟩:=(hx.Af).1.all (show 0<x.Af.xs.length by omega)
   replace ha11:x.Af.a=some ⟨b9,o10,none⟩:=ha11
   have hc14:=hc12 k (show k<x.Af.xs.length by omega)
   have he15:=(hx.Af).2 k (show k<x.Af.xs.length by omega)
   obtain⟨y16,hy16⟩:∃ y_,y_=gd x.Af.xs k:=⟨_,rfl⟩
   rw[←hy16]at he15 hc14
   have hb17:=hr k (by omega);rw[←hy16]at hb17
   refine q_c 5 11 [] [[o0,(DN 1 b9 o10 x.Af),o0,(oi k),(ol 0 (A8.arr y16)),o0,(an 4 2)],[o0,(a1 1),(ov (i6 (x.Entry / 16))),o0,(a1 2),o0,(a1 2),o0,(a1 2),(ov (i6 (y16.Bj+y16.AV))),(ov (i6 ((y16.Bj+y16.AV) - 1)))]] [Qb z,Dh b9 o10 x.Af,Ci k,k<x.Af.xs.length,BN,Fa w b9 (o10+k*4) (A8.arr y16),Qb n7,Qb n7,Qb n7,Qb n7,Qb z,Wr (Int.tdiv (x.Entry) 16) (x.Entry / 16),Qb n7,Qb n7,Qb n7,Wr ((y16.Bj:Int)+y16.AV) (y16.Bj+y16.AV),Wr ((y16.Bj+y16.AV:Int) - 1) ((y16.Bj+y16.AV) - 1)] [(1,pt z),(3,Ac k),(4,pt n7),(23,i6 (x.Entry / 16)),(25,i6 y16.Bj),(31,i6 ((y16.Bj+y16.AV) - 1))] ⟨w,n7+1,[(Ak w),(VQ z x),(bk n7 (A8.arr y16) 49)]⟩ rfl ⟨rfl,Df ha11,rfl,(by omega),rfl,Dt hc14,rfl,rfl,rfl,rfl,rfl,congrArg (Value.int .i64) (Pn (by omega) (by omega) (by omega)),rfl,rfl,rfl,BQ,BQ,Ae⟩ ?_
   refine Bf 32 #[i6 (x.Entry / 16),i6 y16.Bj,i6 ((y16.Bj+y16.AV) - 1)] (some 32) (.bool (win (x.Entry / 16) y16.Bj ((y16.Bj+y16.AV) - 1))) (fun w18 hw18=>G7 w18 (x.Entry / 16) y16.Bj ((y16.Bj+y16.AV) - 1)) (fun n19 (hn20:n7+1≤n19) => ?_)
   refine Dc [1,3,4,32] [(1,pt z),(3,Ac k),(4,pt n7),(32,.bool (win (x.Entry / 16) y16.Bj ((y16.Bj+y16.AV) - 1)))] ?_
   by_cases h21:(win (x.Entry / 16) y16.Bj ((y16.Bj+y16.AV) - 1))=true
   ·have hd22:=EE h21
    by_cases h23:((GU y16.GM 4):Int)=0
    ·refine BP 8 0 [0] [[(ov (.bool true)),o0,(a1 2),o0,oF,o0],[o0,(ov (i6 ((k+1:Nat):Int))),o0]] [Value.bool (win (x.Entry / 16) y16.Bj ((y16.Bj+y16.AV) - 1))=Value.bool true,Qb n7,NF (GU y16.GM 4) 0,Wr ((k:Int)+1) (((k+1:Nat):Int))] [(1,pt z),(3,i6 ((k+1:Nat):Int))] rfl ⟨(congrArg Value.bool h21),rfl,nf,BQ,Ae⟩ ?_
     refine Cb [0,1] [(Ak w),(VQ z x)] rfl rfl ?_
     refine BK [1,3] [(1,pt z),(3,i6 ((k+1:Nat):Int))] ?_
     refine BD (fun a w' hs=>⟨x.Af.xs.length - (k+1),by omega,n19,(k+1),rfl,by omega,by omega,Fh hf (by unfold Sj;rw[←hy16];simp[h4,h21,h23]),hs⟩)
    refine BP 8 0 [1] [[(ov (.bool true)),o0,(a1 2),o0,oT,o0],[o0]] [Value.bool (win (x.Entry / 16) y16.Bj ((y16.Bj+y16.AV) - 1))=Value.bool true,Qb n7,NT (GU y16.GM 4) 0] [(2,.bool true)] rfl ⟨(congrArg Value.bool h21),rfl,nt,Ae⟩ ?_
    refine AA [] [] (.bool true) Ae ?_
    intro w24 hw24
    refine⟨congrArg (fun b=>Ending.returned (Value.bool b)) (?_:true=Oi x),AO hw24⟩
    refine Eq.symm ?_
    unfold Oi GK
    rw[range_any (k:=k) (by omega) (by unfold Sj;rw[←hy16];simp[h4,h21,h23])];simp[h4,h21,h23]
   have hd25:=FQ h21
   refine BP 8 0 [0] [[(ov (.bool false)),o0],[o0,(ov (i6 ((k+1:Nat):Int))),o0]] [Value.bool (win (x.Entry / 16) y16.Bj ((y16.Bj+y16.AV) - 1))=Value.bool false,Wr ((k:Int)+1) (((k+1:Nat):Int))] [(1,pt z),(3,i6 ((k+1:Nat):Int))] rfl ⟨(congrArg Value.bool (Bool.eq_false_iff.2 h21)),BQ,Ae⟩ ?_
   refine Cb [0,1] [(Ak w),(VQ z x)] rfl rfl ?_
   refine BK [1,3] [(1,pt z),(3,i6 ((k+1:Nat):Int))] ?_
   refine BD (fun a w' hs=>⟨x.Af.xs.length - (k+1),by omega,n19,(k+1),rfl,by omega,by omega,Fh hf (by unfold Sj;rw[←hy16];simp[h4,h21]),hs⟩)
  refine Az 14 0 [0] [[o0,o0,(a1 1),o0,oF],[o0]] [Qb z,BF ((k:Int)<(x.Af.xs.length:Int))] [(2,.bool false)] rfl ⟨rfl,bf,Ae⟩ ?_
  refine AA [] [] (.bool false) Ae ?_
  intro w26 hw26
  refine⟨congrArg (fun b=>Ending.returned (Value.bool b)) (?_:false=Oi x),AO hw26⟩
  refine Eq.symm ?_
  unfold Oi GK
  first | (rw[GL (fun i hi=>hf i (by omega)),Bool.and_false]) | simp[h4]
 have hd27:=FQ h4
 refine BP 8 0 [1] [[(ov (.bool true))],[o0]] [Value.bool (!(win x.Entry 0 4095))=Value.bool true] [(2,.bool false)] rfl ⟨by simp[h4],Ae⟩ ?_
 refine AA [] [] (.bool false) Ae ?_
 intro w28 hw28
 refine⟨congrArg (fun b=>Ending.returned (Value.bool b)) (?_:false=Oi x),AO hw28⟩
 refine Eq.symm ?_
 unfold Oi GK
 first | (rw[GL (fun i hi=>hf i (by omega)),Bool.and_false]) | simp[h4]
section
variable (z:Nat)(c:Aj)
abbrev XE:=bk z (Aj.arr c) 26
end
theorem ZbJ(w:World)(c:Aj)(hc:Aj.ok Any w c)(k0:Nat)(hk0:k0<c.Aq.xs.length)(p:Int)(hp1 : -1≤p):Calls Tryd.prog 37 #[.agg (Aj.arr c),.int .i64 (k0:Int),.int .i64 p] w fun e w'=>e = .returned (.bool (Ii c k0 p))∧CP (fun _=>False) w w':=by
 obtain⟨z,hz⟩:∃ z,z=w.heap.size:=⟨_,rfl⟩
 refine CE (args:=[.agg (Aj.arr c),Ac k0,i6 p]) 39 ⟨w,z,[(Ak w)]⟩ Tryd.func37 rfl (by kernel_rfl) (by kernel_rfl) (Ep hz) ?_
 have hpl:=hc.Aq.1.len;have hpc:=hc.Aq.1.le
 refine DC [0,1,2] [(0,.agg (Aj.arr c)),(1,Ac k0),(2,i6 p)] ?_
 refine q_c 10 0 [] [[o0,o0],[o0]] [] [(1,Ac k0),(2,i6 p),(3,pt z),(7,i6 0)] ⟨w,z+1,[(Ak w),(XE z c)]⟩ rfl Ae ?_
 refine Di (fun m a w'=>∃ (n2:Nat) (k:Nat),m=k0 - k∧z+1≤n2∧(k≤k0)∧(∀ i,i<k→(List.range (ED c i).xs.length).any (fun n => !decide (p = -1)&&decide ((gd (ED c i).xs n).Partition=p))=false)∧St 39 [(1,Ac k0),(2,i6 p),(3,pt z),(7,Ac k)] [] ⟨w,n2,[(Ak w),(XE z c)]⟩ a w') (k0 - 0) ?_ ?_
 ·intro a w' hs;exact⟨(z+1),0,rfl,Nat.le_refl _,Nat.zero_le _,fun i hi=>absurd hi (Nat.not_lt_zero i),hs⟩
 rintro m a w' ⟨n2,k,rfl,hn1,hkk,hf,hs⟩
 refine(?_:G Tryd.prog 39 [(1,Ac k0),(2,i6 p),(3,pt z),(7,Ac k)] [] ⟨w,n2,[(Ak w),(XE z c)]⟩ _ _ _) a w' hs
 clear hs a w'
 refine Ce <| Ce ?_
 by_cases h3:(k:Int)<(k0:Int)
 ·refine Az 13 0 [1] [[o0,o0,oT],[o0]] [BT ((k:Int)<(k0:Int))] [(1,Ac k0),(2,i6 p),(3,pt z),(7,Ac k),(8,i6 0)] rfl ⟨bt,Ae⟩ ?_
  refine Di (fun m a w'=>∃ (n5:Nat) (j:Nat),m=(gd c.Aq.xs k).xs.length - j∧n2≤n5∧(j≤(gd c.Aq.xs k).xs.length)∧(∀ i,i<j→(!decide (p = -1)&&decide ((gd (ED c k).xs i).Partition=p))=false)∧St 39 [(1,Ac k0),(2,i6 p),(3,pt z),(7,Ac k),(8,Ac j)] [] ⟨w,n5,[(Ak w),(XE z c)]⟩ a w') ((gd c.Aq.xs k).xs.length - 0) ?_ ?_
  ·intro a w' hs;exact⟨n2,0,rfl,Nat.le_refl _,Nat.zero_le _,fun i hi=>absurd hi (Nat.not_lt_zero i),hs⟩
  rintro m a w' ⟨n5,j,rfl,hn4,hkj,hg,hs⟩
  refine(?_:G Tryd.prog 39 [(1,Ac k0),(2,i6 p),(3,pt z),(7,Ac k),(8,Ac j)] [] ⟨w,n5,[(Ak w),(XE z c)]⟩ _ _ _) a w' hs
  clear hs a w'
  refine Ce <| Ce ?_
  obtain⟨b6,o7,ha8,hF10,hc9⟩:=(hc.Aq).1.all (show 0<c.Aq.xs.length by omega)
  replace ha8:c.Aq.a=some ⟨b6,o7,none⟩:=ha8
  have hc11:=hc9 k (show k<c.Aq.xs.length by omega)
  have he12:=(hc.Aq).2 k (show k<c.Aq.xs.length by omega)
  obtain⟨y13,hy13⟩:∃ y_,y_=gd c.Aq.xs k:=⟨_,rfl⟩
  rw[←hy13]at he12 hc11
  have hley13:y13.xs.length=(gd c.Aq.xs k).xs.length:=(by rw[hy13]);have hyly13:=he12.1.len
  by_cases h14:(j:Int)<(y13.xs.length:Int)
  ·refine Az 9 0 [1] [[o0,o0,(DN 1 b6 o7 c.Aq),o0,(oi k),(oa [.via 0 (.slice y13.a y13.xs.length y13.cap)]),o0,oT]] [Qb z,Dh b6 o7 c.Aq,Ci k,k<c.Aq.xs.length,BN,Old w b6 (o7+k) (.slice y13.a y13.xs.length y13.cap),BT ((j:Int)<(y13.xs.length:Int))] [(1,Ac k0),(2,i6 p),(3,pt z),(7,Ac k),(8,Ac j),(21,.bool true)] rfl ⟨rfl,Df ha8,rfl,(by omega),rfl,A7 (hc11 0 _ rfl),bt,Ae⟩ ?_
   by_cases h15:(p:Int) = -1
   ·refine Az 9 0 [0] [[o0,oF,o0,o0],[o0,(ov (i6 ((j+1:Nat):Int))),o0]] [NF p (-1),Wr ((j:Int)+1) (((j+1:Nat):Int))] [(1,Ac k0),(2,i6 p),(3,pt z),(7,Ac k),(8,i6 ((j+1:Nat):Int))] rfl ⟨nf,BQ,Ae⟩ ?_
    refine BD (fun a w' hs=>⟨(gd c.Aq.xs k).xs.length - (j+1),by omega,n5,(j+1),rfl,by omega,by omega,Fh hg (by simp;omega),hs⟩)
   obtain⟨b16,o17,ha18,hF20,hc19⟩:=(he12).1.all (show 0<y13.xs.length by omega)
   replace ha18:y13.a=some ⟨b16,o17,none⟩:=ha18
   have hc21:=hc19 j (show j<y13.xs.length by omega)
   have he22:=(he12).2 j (show j<y13.xs.length by omega)
   obtain⟨y23,hy23⟩:∃ y_,y_=gd y13.xs j:=⟨_,rfl⟩
   rw[←hy23]at he22 hc21
   by_cases h24:(y23.Partition:Int)=p
   ·refine Az 9 0 [1] [[o0,oT,o0,o0,(DN 1 b6 o7 c.Aq),o0,(oi k),⟨.auto [.via 0 (.slice y13.a y13.xs.length y13.cap)],some (.slice (some ⟨b16,o17,none⟩) y13.xs.length y13.cap)⟩,o0,(oi j),o0,(oa [.via 0 (i6 y23.Partition)]),o0,oT,o0],[o0]] [NT p (-1),Qb z,Dh b6 o7 c.Aq,Ci k,k<c.Aq.xs.length,BN,Old w b6 (o7+k) (.slice y13.a y13.xs.length y13.cap),Dh b16 o17 y13,Ci j,j<y13.xs.length,BN,Old w b16 (o17+j*3) (i6 y23.Partition),ET y23.Partition p] [(6,.bool true)] rfl ⟨nt,rfl,Df ha8,rfl,(by omega),rfl,A7 (hc11 0 _ rfl),Df ha18,rfl,(by omega),rfl,A7 (hc21 0 _ rfl),et,Ae⟩ ?_
    refine AA [] [] (.bool true) Ae ?_
    intro w25 hw25
    refine⟨congrArg (fun b=>Ending.returned (Value.bool b)) (?_:true=Ii c k0 p),AO hw25⟩
    refine Eq.symm ((Zbv hp1).trans (range_any (k:=k) (by omega) (range_any (k:=j) (by dsimp only[ED];omega) ?_)))
    have e:gd (ED c k).xs j=y23:=(by rw[hy23,hy13]);simp only[e];simp;omega
   refine Az 9 0 [0] [[o0,oT,o0,o0,(DN 1 b6 o7 c.Aq),o0,(oi k),⟨.auto [.via 0 (.slice y13.a y13.xs.length y13.cap)],some (.slice (some ⟨b16,o17,none⟩) y13.xs.length y13.cap)⟩,o0,(oi j),o0,(oa [.via 0 (i6 y23.Partition)]),o0,oF,o0],[o0,(ov (i6 ((j+1:Nat):Int))),o0]] [NT p (-1),Qb z,Dh b6 o7 c.Aq,Ci k,k<c.Aq.xs.length,BN,Old w b6 (o7+k) (.slice y13.a y13.xs.length y13.cap),Dh b16 o17 y13,Ci j,j<y13.xs.length,BN,Old w b16 (o17+j*3) (i6 y23.Partition),EF y23.Partition p,Wr ((j:Int)+1) (((j+1:Nat):Int))] [(1,Ac k0),(2,i6 p),(3,pt z),(7,Ac k),(8,i6 ((j+1:Nat):Int))] rfl ⟨nt,rfl,Df ha8,rfl,(by omega),rfl,A7 (hc11 0 _ rfl),Df ha18,rfl,(by omega),rfl,A7 (hc21 0 _ rfl),ef,BQ,Ae⟩ ?_
   refine BD (fun a w' hs=>⟨(gd c.Aq.xs k).xs.length - (j+1),by omega,n5,(j+1),rfl,by omega,by omega,Fh hg (by have e:gd (ED c k).xs j=y23:=(by rw[hy23,hy13]);simp only[e];simp;omega),hs⟩)
  refine Az 12 0 [0] [[o0,o0,(DN 1 b6 o7 c.Aq),o0,(oi k),(oa [.via 0 (.slice y13.a y13.xs.length y13.cap)]),o0,oF],[o0,(ov (i6 ((k+1:Nat):Int))),o0]] [Qb z,Dh b6 o7 c.Aq,Ci k,k<c.Aq.xs.length,BN,Old w b6 (o7+k) (.slice y13.a y13.xs.length y13.cap),BF ((j:Int)<(y13.xs.length:Int)),Wr ((k:Int)+1) (((k+1:Nat):Int))] [(1,Ac k0),(2,i6 p),(3,pt z),(7,i6 ((k+1:Nat):Int))] rfl ⟨rfl,Df ha8,rfl,(by omega),rfl,A7 (hc11 0 _ rfl),bf,BQ,Ae⟩ ?_
  refine BD (fun a w' hs=>⟨k0 - (k+1),by omega,n5,(k+1),rfl,by omega,by omega,Fh hf (GL (fun i hi=>hg i (by dsimp only[ED]at hi;omega))),hs⟩)
 refine Az 14 0 [0] [[o0,o0,oF],[o0]] [BF ((k:Int)<(k0:Int))] [(6,.bool false)] rfl ⟨bf,Ae⟩ ?_
 refine AA [] [] (.bool false) Ae ?_
 intro w26 hw26
 refine⟨congrArg (fun b=>Ending.returned (Value.bool b)) (?_:false=Ii c k0 p),AO hw26⟩
 exact((Zbv hp1).trans (GL (fun i hi=>hf i (by omega)))).symm
section
variable (z:Nat)(c:Aj)(h:Int)(i j:Nat)
abbrev JP:=bk z (Aj.arr c) 26
abbrev KE:=(6,i6 (((JD (FO h) c.Aa.xs i+NZ (FO h) (gd c.Aa.xs i).Am.xs j)+1:Nat):Int))
abbrev Jr:=(7,i6 (((JD (FN h) c.Aa.xs i+NZ (FN h) (gd c.Aa.xs i).Am.xs j)+1:Nat):Int))
abbrev HY:=(6,i6 (((JD (FO h) c.Aa.xs i+NZ (FO h) (gd c.Aa.xs i).Am.xs j):Nat):Int))
abbrev Nv:=(7,i6 (((JD (FN h) c.Aa.xs i+NZ (FN h) (gd c.Aa.xs i).Am.xs j):Nat):Int))
abbrev Q5:=(9,i6 ((j+1:Nat):Int))
end
theorem Oq(w:World)(c:Aj)(hc:Aj.ok Any w c)(h:Int)(hm:c.Aa.xs.length≤1024)(hq:∀ p,p<c.Aa.xs.length→(gd c.Aa.xs p).Am.xs.length≤1024):Calls Tryd.prog 36 #[.agg (Aj.arr c),.int .i64 h] w fun e w'=>e = .returned (.tuple #[.int .i64 (II c h:Nat),.int .i64 (BB c h:Nat)])∧CP (fun _=>False) w w':=by
 obtain⟨z,hz⟩:∃ z,z=w.heap.size:=⟨_,rfl⟩
 refine CE (args:=[.agg (Aj.arr c),i6 h]) 61 ⟨w,z,[(Ak w)]⟩ Tryd.func36 rfl (by kernel_rfl) (by kernel_rfl) (Ep hz) ?_
 have hpl:=hc.Aa.1.len
 refine DC [0,1] [(0,.agg (Aj.arr c)),(1,i6 h)] ?_
 refine q_c 18 0 [] [[o0,o0,o0],[o0],[o0],[o0]] [] [(1,i6 h),(2,pt z),(6,i6 0),(7,i6 0),(8,i6 0)] ⟨w,z+1,[(Ak w),(JP z c)]⟩ rfl Ae ?_
 refine Di (fun m a w'=>∃ (n2:Nat) (i:Nat),m=c.Aa.xs.length - i∧z+1≤n2∧(i≤c.Aa.xs.length)∧St 61 [(1,i6 h),(2,pt z),(6,i6 ((JD (FO h) c.Aa.xs i:Nat):Int)),(7,i6 ((JD (FN h) c.Aa.xs i:Nat):Int)),(8,Ac i)] [] ⟨w,n2,[(Ak w),(JP z c)]⟩ a w') (c.Aa.xs.length - 0) ?_ ?_
 ·intro a w' hs;exact⟨(z+1),0,rfl,Nat.le_refl _,Nat.zero_le _,hs⟩
 rintro m a w' ⟨n2,i,rfl,hn1,hki,hs⟩
 refine(?_:G Tryd.prog 61 [(1,i6 h),(2,pt z),(6,i6 ((JD (FO h) c.Aa.xs i:Nat):Int)),(7,i6 ((JD (FN h) c.Aa.xs i:Nat):Int)),(8,Ac i)] [] ⟨w,n2,[(Ak w),(JP z c)]⟩ _ _ _) a w' hs
 clear hs a w'
 have bb4:=Xl (f:=FO h) (n:=i) (m:=1024) (fun p hp=>hq p (by omega))
 have bb5:=Xl (f:=FN h) (n:=i) (m:=1024) (fun p hp=>hq p (by omega))
 refine Ce <| Ce ?_
 by_cases h3:(i:Int)<(c.Aa.xs.length:Int)
 ·refine Az 13 0 [1] [[o0,o0,(a1 1),o0,oT],[o0]] [Qb z,BT ((i:Int)<(c.Aa.xs.length:Int))] [(1,i6 h),(2,pt z),(6,i6 ((JD (FO h) c.Aa.xs i:Nat):Int)),(7,i6 ((JD (FN h) c.Aa.xs i:Nat):Int)),(8,Ac i),(9,i6 0)] rfl ⟨rfl,bt,Ae⟩ ?_
  refine Di (fun m a w'=>∃ (n5:Nat) (j:Nat),m=(gd c.Aa.xs i).Am.xs.length - j∧n2≤n5∧(j≤(gd c.Aa.xs i).Am.xs.length)∧St 61 [(1,i6 h),(2,pt z),(HY c h i j),(Nv c h i j),(8,Ac i),(9,Ac j)] [] ⟨w,n5,[(Ak w),(JP z c)]⟩ a w') ((gd c.Aa.xs i).Am.xs.length - 0) ?_ ?_
  ·intro a w' hs;exact⟨n2,0,rfl,Nat.le_refl _,Nat.zero_le _,hs⟩
  rintro m a w' ⟨n5,j,rfl,hn4,hkj,hs⟩
  refine(?_:G Tryd.prog 61 [(1,i6 h),(2,pt z),(HY c h i j),(Nv c h i j),(8,Ac i),(9,Ac j)] [] ⟨w,n5,[(Ak w),(JP z c)]⟩ _ _ _) a w' hs
  clear hs a w'
  have c4:=Zw (FO h) (gd c.Aa.xs i).Am.xs j
  have c5:=Zw (FN h) (gd c.Aa.xs i).Am.xs j
  have hyl:=hq i (by omega)
  refine Ce <| Ce ?_
  obtain⟨b6,o7,ha8,hF10,hc9⟩:=(hc.Aa).1.all (show 0<c.Aa.xs.length by omega)
  replace ha8:c.Aa.a=some ⟨b6,o7,none⟩:=ha8
  have hc11:=hc9 i (show i<c.Aa.xs.length by omega)
  have he12:=(hc.Aa).2 i (show i<c.Aa.xs.length by omega)
  obtain⟨y13,hy13⟩:∃ y_,y_=gd c.Aa.xs i:=⟨_,rfl⟩
  rw[←hy13]at he12 hc11
  have hley13:y13.Am.xs.length=(gd c.Aa.xs i).Am.xs.length:=(by rw[hy13]);have hyly13:=he12.Am.1.len
  by_cases h14:(j:Int)<(y13.Am.xs.length:Int)
  ·refine Az 9 0 [1] [[o0,o0,(DN 1 b6 o7 c.Aa),o0,(oi i),o0,(oa [.via 0 (.slice y13.Am.a y13.Am.xs.length y13.Am.cap)]),o0,oT]] [Qb z,Dh b6 o7 c.Aa,Ci i,i<c.Aa.xs.length,BN,Old w b6 (o7+i*8+7) (.slice y13.Am.a y13.Am.xs.length y13.Am.cap),BT ((j:Int)<(y13.Am.xs.length:Int))] [(1,i6 h),(2,pt z),(HY c h i j),(Nv c h i j),(8,Ac i),(9,Ac j),(26,.bool true)] rfl ⟨rfl,Df ha8,rfl,(by omega),rfl,A7 (hc11 7 _ rfl),bt,Ae⟩ ?_
   obtain⟨b15,o16,ha17,hF19,hc18⟩:=(he12.Am).1.all (show 0<y13.Am.xs.length by omega)
   replace ha17:y13.Am.a=some ⟨b15,o16,none⟩:=ha17
   have hc20:=hc18 j (show j<y13.Am.xs.length by omega)
   have he21:=(he12.Am).2 j (show j<y13.Am.xs.length by omega)
   obtain⟨y22,hy22⟩:∃ y_,y_=gd y13.Am.xs j:=⟨_,rfl⟩
   rw[←hy22]at he21 hc20
   refine q_c 5 0 [] [[o0,(DN 1 b6 o7 c.Aa),o0,(oi i),o0,⟨.auto [.via 0 (.slice y13.Am.a y13.Am.xs.length y13.Am.cap)],some (.slice (some ⟨b15,o16,none⟩) y13.Am.xs.length y13.Am.cap)⟩,o0,(oi j),(ol 0 (Bh.arr y22)),o0,(an 2 2)]] [Qb z,Dh b6 o7 c.Aa,Ci i,i<c.Aa.xs.length,BN,Old w b6 (o7+i*8+7) (.slice y13.Am.a y13.Am.xs.length y13.Am.cap),Dh b15 o16 y13.Am,Ci j,j<y13.Am.xs.length,BN,Fa w b15 (o16+j*2) (Bh.arr y22),Qb n5,Qb n5] [(1,i6 h),(2,pt z),(HY c h i j),(Nv c h i j),(8,Ac i),(9,Ac j),(10,pt n5)] ⟨w,n5+1,[(Ak w),(JP z c),(bk n5 (Bh.arr y22) 57)]⟩ rfl ⟨rfl,Df ha8,rfl,(by omega),rfl,A7 (hc11 7 _ rfl),Df ha17,rfl,(by omega),rfl,Dt hc20,rfl,rfl,Ae⟩ ?_
   by_cases h23:(y22.Channel:Int)=h
   ·refine Az 3 0 [] [[o0,(a1 2),o0,oT,o0,o0,(a1 2),o0]] [Qb n5,ET y22.Channel h,Qb n5] [(1,i6 h),(2,pt z),(HY c h i j),(Nv c h i j),(8,Ac i),(9,Ac j),(10,pt n5),(45,.bool y22.Source)] rfl ⟨rfl,et,rfl,Ae⟩ ?_
    by_cases h24:y22.Source=true
    ·refine Az 14 0 [3,0] [[o0,(ov (i6 (((JD (FO h) c.Aa.xs i+NZ (FO h) (gd c.Aa.xs i).Am.xs j)+1:Nat):Int))),o0],[o0,(a1 2),o0,oT,o0,o0,(a1 2),(ov (.bool false)),o0],[o0,(ov (i6 ((j+1:Nat):Int))),o0]] [Value.bool y22.Source=Value.bool true,Wr (((((JD (FO h) c.Aa.xs i+NZ (FO h) (gd c.Aa.xs i).Am.xs j):Nat):Int):Int)+1) ((((JD (FO h) c.Aa.xs i+NZ (FO h) (gd c.Aa.xs i).Am.xs j)+1:Nat):Int)),Qb n5,ET y22.Channel h,Qb n5,Value.bool (!y22.Source)=Value.bool false,Wr ((j:Int)+1) (((j+1:Nat):Int))] [(1,i6 h),(2,pt z),(KE c h i j),(Nv c h i j),(8,Ac i),(Q5 j)] rfl ⟨(congrArg Value.bool h24),BQ,rfl,et,rfl,by simp[h24],BQ,Ae⟩ ?_
     refine Cb [0,1] [(Ak w),(JP z c)] rfl rfl ?_
     have e0:gd (gd c.Aa.xs i).Am.xs j=y22:=(by rw[hy22,hy13])
     have e4:=MG (FO h) (gd c.Aa.xs i).Am.xs (n:=j) (by omega);rw[e0]at e4
     have e5:=MG (FN h) (gd c.Aa.xs i).Am.xs (n:=j) (by omega);rw[e0]at e5
     simp[FO,h23,h24]at e4
     simp[FN,h23,h24]at e5
     refine BK [1,2,6,7,8,9] [(1,i6 h),(2,pt z),(KE c h i j),(Nv c h i j),(8,Ac i),(Q5 j)] ?_
     refine BD (fun a w' hs=>⟨(gd c.Aa.xs i).Am.xs.length - (j+1),by omega,(n5+1),(j+1),rfl,by omega,by omega,(by(try dsimp only[JP,KE,HY,Nv,Q5]at hs ⊢);rw[e4,e5];exact hs)⟩)
    refine Az 14 0 [2,1] [[o0,(a1 2),o0,oT,o0,o0,(a1 2),(ov (.bool true)),o0],[o0,(ov (i6 (((JD (FN h) c.Aa.xs i+NZ (FN h) (gd c.Aa.xs i).Am.xs j)+1:Nat):Int))),o0],[o0,(ov (i6 ((j+1:Nat):Int))),o0]] [Value.bool y22.Source=Value.bool false,Qb n5,ET y22.Channel h,Qb n5,Value.bool (!y22.Source)=Value.bool true,Wr (((((JD (FN h) c.Aa.xs i+NZ (FN h) (gd c.Aa.xs i).Am.xs j):Nat):Int):Int)+1) ((((JD (FN h) c.Aa.xs i+NZ (FN h) (gd c.Aa.xs i).Am.xs j)+1:Nat):Int)),Wr ((j:Int)+1) (((j+1:Nat):Int))] [(1,i6 h),(2,pt z),(HY c h i j),(Jr c h i j),(8,Ac i),(Q5 j)] rfl ⟨(congrArg Value.bool (Bool.eq_false_iff.2 h24)),rfl,et,rfl,by simp[h24],BQ,BQ,Ae⟩ ?_
    refine Cb [0,1] [(Ak w),(JP z c)] rfl rfl ?_
    have e0:gd (gd c.Aa.xs i).Am.xs j=y22:=(by rw[hy22,hy13])
    have e4:=MG (FO h) (gd c.Aa.xs i).Am.xs (n:=j) (by omega);rw[e0]at e4
    have e5:=MG (FN h) (gd c.Aa.xs i).Am.xs (n:=j) (by omega);rw[e0]at e5
    simp[FO,h23,h24]at e4
    simp[FN,h23,h24]at e5
    refine BK [1,2,6,7,8,9] [(1,i6 h),(2,pt z),(HY c h i j),(Jr c h i j),(8,Ac i),(Q5 j)] ?_
    refine BD (fun a w' hs=>⟨(gd c.Aa.xs i).Am.xs.length - (j+1),by omega,(n5+1),(j+1),rfl,by omega,by omega,(by(try dsimp only[JP,KE,Jr,HY,Nv,Q5]at hs ⊢);rw[e4,e5];exact hs)⟩)
   refine Az 16 0 [0,0] [[o0,(a1 2),o0,oF,o0,o0],[o0,(a1 2),o0,oF,o0,o0],[o0,(ov (i6 ((j+1:Nat):Int))),o0]] [Qb n5,EF y22.Channel h,Qb n5,EF y22.Channel h,Wr ((j:Int)+1) (((j+1:Nat):Int))] [(1,i6 h),(2,pt z),(HY c h i j),(Nv c h i j),(8,Ac i),(Q5 j)] rfl ⟨rfl,ef,rfl,ef,BQ,Ae⟩ ?_
   refine Cb [0,1] [(Ak w),(JP z c)] rfl rfl ?_
   have e0:gd (gd c.Aa.xs i).Am.xs j=y22:=(by rw[hy22,hy13])
   have e4:=MG (FO h) (gd c.Aa.xs i).Am.xs (n:=j) (by omega);rw[e0]at e4
   have e5:=MG (FN h) (gd c.Aa.xs i).Am.xs (n:=j) (by omega);rw[e0]at e5
   simp[FO,h23]at e4
   simp[FN,h23]at e5
   refine BK [1,2,6,7,8,9] [(1,i6 h),(2,pt z),(HY c h i j),(Nv c h i j),(8,Ac i),(Q5 j)] ?_
   refine BD (fun a w' hs=>⟨(gd c.Aa.xs i).Am.xs.length - (j+1),by omega,(n5+1),(j+1),rfl,by omega,by omega,(by(try dsimp only[JP,KE,Jr,HY,Nv,Q5]at hs ⊢);rw[e4,e5];exact hs)⟩)
  refine Az 12 0 [0] [[o0,o0,(DN 1 b6 o7 c.Aa),o0,(oi i),o0,(oa [.via 0 (.slice y13.Am.a y13.Am.xs.length y13.Am.cap)]),o0,oF],[o0,(ov (i6 ((i+1:Nat):Int))),o0]] [Qb z,Dh b6 o7 c.Aa,Ci i,i<c.Aa.xs.length,BN,Old w b6 (o7+i*8+7) (.slice y13.Am.a y13.Am.xs.length y13.Am.cap),BF ((j:Int)<(y13.Am.xs.length:Int)),Wr ((i:Int)+1) (((i+1:Nat):Int))] [(1,i6 h),(2,pt z),(HY c h i j),(Nv c h i j),(8,i6 ((i+1:Nat):Int))] rfl ⟨rfl,Df ha8,rfl,(by omega),rfl,A7 (hc11 7 _ rfl),bf,BQ,Ae⟩ ?_
  have e4:=UV (FO h) c.Aa.xs i
  have e5:=UV (FN h) c.Aa.xs i
  refine BK [1,2,6,7,8] [(1,i6 h),(2,pt z),(HY c h i j),(Nv c h i j),(8,i6 ((i+1:Nat):Int))] ?_
  refine BD (fun a w' hs=>⟨c.Aa.xs.length - (i+1),by omega,n5,(i+1),rfl,by omega,by omega,(by(try dsimp only[JP,HY,Nv,Q5]at hs ⊢);rw[YB (FO h) _ (n:=j) (by omega),YB (FN h) _ (n:=j) (by omega),←e4,←e5]at hs;exact hs)⟩)
 refine Az 14 0 [0] [[o0,o0,(a1 1),o0,oF],[o0,o0,o0,o0]] [Qb z,BF ((i:Int)<(c.Aa.xs.length:Int))] [(4,i6 ((JD (FO h) c.Aa.xs i:Nat):Int)),(5,i6 ((JD (FN h) c.Aa.xs i:Nat):Int))] rfl ⟨rfl,bf,Ae⟩ ?_
 refine AA [] [] (.tuple #[i6 ((JD (FO h) c.Aa.xs i:Nat):Int),i6 ((JD (FN h) c.Aa.xs i:Nat):Int)]) Ae ?_
 intro w25 hw25
 exact⟨by rw[show i=c.Aa.xs.length from by omega];rfl,AO hw25⟩
theorem Zca(w:World)(c:Aj)(hc:Aj.ok Any w c)(hF:1≤c.Frames∧c.Frames≤1024)(g:A8)(hg:A8.ok Any w g):Calls Tryd.prog 63 #[.agg (Aj.arr c),.agg (A8.arr g)] w fun e w'=>e = .returned (.bool (Kr c g))∧CP (fun _=>False) w w':=by
 obtain⟨z,hz⟩:∃ z,z=w.heap.size:=⟨_,rfl⟩
 refine CE (args:=[.agg (Aj.arr c),.agg (A8.arr g)]) 36 ⟨w,z,[(Ak w)]⟩ Tryd.func63 rfl (by kernel_rfl) (by kernel_rfl) (Ep hz) ?_
 have hgf0:(-9223372036854775808:Int)≤g.Frame∧g.Frame≤9223372036854775807:=hg.Frame
 refine DC [0,1] [(0,.agg (Aj.arr c)),(1,.agg (A8.arr g))] ?_
 refine q_c 7 2 [] [[o0,o0,o0],[o0,(a1 2)]] [Qb (z+1)] [(2,pt z),(3,pt (z+1)),(6,i6 g.Bj)] ⟨w,z+2,[(Ak w),(bk z (Aj.arr c) 26),(bk (z+1) (A8.arr g) 49)]⟩ rfl ⟨rfl,Ae⟩ ?_
 refine Bf 32 #[i6 g.Bj,i6 0,i6 255] (some 7) (.bool (win g.Bj 0 255)) (fun w1 hw1=>G7 w1 g.Bj 0 255) (fun n2 (hn3:z+2≤n2) => ?_)
 refine Dc [2,3,7] [(2,pt z),(3,pt (z+1)),(7,.bool (win g.Bj 0 255))] ?_
 by_cases h4:(win g.Bj 0 255)=true
 ·have hd5:=EE h4
  refine BP 0 7 [] [[(ov (.bool false)),o0,o0,(a1 2),o0,(a1 2),(ov (i6 (256 - g.Bj)))]] [Value.bool (!(win g.Bj 0 255))=Value.bool false,Qb (z+1),Qb (z+1),Wr ((256:Int) - g.Bj) (256 - g.Bj)] [(2,pt z),(3,pt (z+1)),(9,.bool false),(11,i6 g.AV),(14,i6 (256 - g.Bj))] rfl ⟨by simp[h4],rfl,rfl,BQ,Ae⟩ ?_
  refine Bf 32 #[i6 g.AV,i6 1,i6 (256 - g.Bj)] (some 15) (.bool (win g.AV 1 (256 - g.Bj))) (fun w6 hw6=>G7 w6 g.AV 1 (256 - g.Bj)) (fun n7 (hn8:n2≤n7) => ?_)
  refine Dc [2,3,9,15] [(2,pt z),(3,pt (z+1)),(9,.bool false),(15,.bool (win g.AV 1 (256 - g.Bj)))] ?_
  by_cases h9:(win g.AV 1 (256 - g.Bj))=true
  ·have hd10:=EE h9
   refine BP 6 0 [0] [[(ov (.bool false)),o0]] [Value.bool (!(win g.AV 1 (256 - g.Bj)))=Value.bool false] [(2,pt z),(3,pt (z+1)),(17,.bool false)] rfl ⟨by simp[h9],Ae⟩ ?_
   by_cases h11:(g.Frame:Int)<0
   ·refine Az 4 0 [] [[o0,(a1 2),oF,o0,o0,o0,o0,o0]] [Qb (z+1),BF ((g.Frame:Int)≥0)] [(4,.bool false)] rfl ⟨rfl,bf,Ae⟩ ?_
    refine AA [] [] (.bool false) Ae ?_
    intro w12 hw12
    refine⟨congrArg (fun b=>Ending.returned (Value.bool b)) (?_:false=Kr c g),AO hw12⟩
    have hgf:(-9223372036854775808:Int)≤g.Frame∧g.Frame≤9223372036854775807:=hg.Frame
    unfold Kr
    first | done | simp[h4,h9];try omega
   by_cases h13:(c.Frames - g.Frame:Int)<g.AV
   ·refine Az 4 0 [] [[o0,(a1 2),oT,o0,o0,(a1 2),o0,(a1 1),o0,(a1 2),(ov (i6 (c.Frames - g.Frame))),oF,o0,o0,o0,o0]] [Qb (z+1),BT ((g.Frame:Int)≥0),Qb (z+1),Qb z,Qb (z+1),Wr ((c.Frames:Int) - g.Frame) (c.Frames - g.Frame),BF ((g.AV:Int)≤(c.Frames - g.Frame))] [(4,.bool false)] rfl ⟨rfl,bt,rfl,rfl,rfl,BQ,bf,Ae⟩ ?_
    refine AA [] [] (.bool false) Ae ?_
    intro w14 hw14
    refine⟨congrArg (fun b=>Ending.returned (Value.bool b)) (?_:false=Kr c g),AO hw14⟩
    have hgf:(-9223372036854775808:Int)≤g.Frame∧g.Frame≤9223372036854775807:=hg.Frame
    unfold Kr
    first | done | simp[h4,h9];try omega
   refine Az 1 16 [] [[o0,(a1 2),oT,o0,o0,(a1 2),o0,(a1 1),o0,(a1 2),(ov (i6 (c.Frames - g.Frame))),oT,o0,o0,o0,(a1 2)]] [Qb (z+1),BT ((g.Frame:Int)≥0),Qb (z+1),Qb z,Qb (z+1),Wr ((c.Frames:Int) - g.Frame) (c.Frames - g.Frame),BT ((g.AV:Int)≤(c.Frames - g.Frame)),Qb (z+1)] [(31,.bool true),(33,i6 g.GM)] rfl ⟨rfl,bt,rfl,rfl,rfl,BQ,bt,rfl,Ae⟩ ?_
   refine Bf 32 #[i6 g.GM,i6 1,i6 7] (some 34) (.bool (win g.GM 1 7)) (fun w15 hw15=>G7 w15 g.GM 1 7) (fun n16 (hn17:n7≤n16) => ?_)
   refine BP 3 0 [] [[o0,o0]] [] [(4,.bool (win g.GM 1 7))] rfl Ae ?_
   refine AA [] [] (.bool (win g.GM 1 7)) Ae ?_
   intro w18 hw18
   refine⟨congrArg (fun b=>Ending.returned (Value.bool b)) (?_:win g.GM 1 7=Kr c g),AO hw18⟩
   have hgf:(-9223372036854775808:Int)≤g.Frame∧g.Frame≤9223372036854775807:=hg.Frame
   unfold Kr
   first | done | simp[h4,h9];try omega
  have hd19:=FQ h9
  refine BP 8 0 [1] [[(ov (.bool true)),o0],[o0]] [Value.bool (!(win g.AV 1 (256 - g.Bj)))=Value.bool true] [(4,.bool false)] rfl ⟨by simp[h9],Ae⟩ ?_
  refine AA [] [] (.bool false) Ae ?_
  intro w20 hw20
  refine⟨congrArg (fun b=>Ending.returned (Value.bool b)) (?_:false=Kr c g),AO hw20⟩
  have hgf:(-9223372036854775808:Int)≤g.Frame∧g.Frame≤9223372036854775807:=hg.Frame
  unfold Kr
  first | done | simp[h4,h9];try omega
 have hd21:=FQ h4
 refine BP 8 0 [1] [[(ov (.bool true)),o0,o0],[o0]] [Value.bool (!(win g.Bj 0 255))=Value.bool true] [(4,.bool false)] rfl ⟨by simp[h4],Ae⟩ ?_
 refine AA [] [] (.bool false) Ae ?_
 intro w22 hw22
 refine⟨congrArg (fun b=>Ending.returned (Value.bool b)) (?_:false=Kr c g),AO hw22⟩
 have hgf:(-9223372036854775808:Int)≤g.Frame∧g.Frame≤9223372036854775807:=hg.Frame
 unfold Kr
 first | done | simp[h4];try omega
def UR(x:Ar):Prop:=x=Bg∨((400≤x.e∧x.e≤423) ∧ -1≤x.Ai.First ∧ -1≤x.Ai.Second)
theorem WX:UR Bg:= .inl rfl
theorem Xf{e a b:Int}(h:400≤e∧e≤423)(ha : -1≤a)(hb : -1≤b):UR ⟨e,⟨a,b⟩⟩:= .inr ⟨h,ha,hb⟩
theorem Uh{b:Bool}{e x y:Int}(h:400≤e∧e≤423)(ha : -1≤x)(hb : -1≤y):UR (Ah b e ⟨x,y⟩):=by
 cases b
 ·exact Xf h ha hb
 exact WX
theorem Ul:∀ {l:List Ar},(∀ x∈l,UR x)→UR (Bc l)
 | [],_=>WX
 | x :: r,h=>by
  unfold Bc
  by_cases e:x=Bg
  ·rw[if_pos e];exact Ul fun y hy=>h y (List.mem_cons_of_mem _ hy)
  rw[if_neg e];exact h x (List.mem_cons_self ..)
theorem Zc{o:Ar}{f:Nat→Ar}{n:Nat}(ho:UR o)(hf:∀ i,UR (f i)):UR (FZ o f n):=by
 unfold FZ
 refine Ul fun x hx => ?_
 rcases List.mem_cons.1 hx with rfl | hx
 ·exact ho
 obtain⟨i, -,rfl⟩:=List.mem_map.1 hx;exact hf i
section
variable (c:Aj)
theorem Zck(p:Nat):UR (CX c p):=by
 have hr:∀ k,UR (ES c p k):=by
  intro k
  unfold ES
  split
  ·exact Xf (by decide) (by omega) (by omega)
  split
  ·exact Xf (by decide) (by omega) (by omega)
  split
  ·exact Xf (by decide) (by omega) (by omega)
  exact WX
 have hA:UR (IP c p):=Zc (Ul fun x hx=>by
  simp only[G6,List.mem_cons,List.not_mem_nil,or_false]at hx
  rcases hx with rfl | rfl | rfl | rfl <;> exact Uh (by decide) (by omega) (by omega)) hr
 unfold CX
 split
 ·exact Zc (Ul fun x hx=>by
   simp only[H9,List.mem_cons,List.not_mem_nil,or_false]at hx
   rcases hx with rfl | rfl <;> exact Uh (by decide) (by omega) (by omega)) (fun k=>Uh (by decide) (by omega) (by omega))
 exact hA
theorem Zb(h:Nat):UR (Dx c h):=Ul fun x hx=>by
 simp only[List.mem_cons,List.not_mem_nil,or_false]at hx
 rcases hx with rfl | rfl | rfl <;> exact Uh (by decide) (by omega) (by omega)
theorem Zcy(k:Nat):UR (Em c k):=by
 have hw:∀ n,UR (Gf c k n):=fun n=>Ul fun x hx=>by
  simp only[Ob,List.mem_cons,List.not_mem_nil,or_false]at hx
  rcases hx with rfl | rfl | rfl <;> exact Uh (by decide) (by omega) (by omega)
 unfold Em
 split
 ·exact Xf (by decide) (by omega) (by omega)
 split
 ·exact Uh (by decide) (by omega) (by omega)
 exact Zc WX hw
variable {c}
theorem fst_nil:∀ {l:List Ar},Bc l=Bg→∀ k,k<l.length→gd l k=Bg:=fun h k hk=>by
 rw[F9 hk];exact VC h _ (List.getElem_mem _)
theorem any_no{p:Nat→Bool}{n:Nat}(h:(List.range n).any p=false){k:Nat}(hk:k<n):p k=false:=by
 rw[List.any_eq_false]at h
 have:=h k (List.mem_range.2 hk)
 simpa using this
end
theorem okf_reg(c:Aj)(p k:Nat):ES c p k=Bg∨(¬ (ES c p k).e=0∧(ES c p k).Ai=⟨p,k⟩):=by
 unfold ES
 split
 ·exact .inr ⟨(by decide:¬ (409:Int)=0),rfl⟩
 split
 ·exact .inr ⟨(by decide:¬ (410:Int)=0),rfl⟩
 split
 ·exact .inr ⟨(by decide:¬ (411:Int)=0),rfl⟩
 exact .inl rfl
theorem Za{c:Aj}{p k:Nat}:(ES c p k).e=0↔ES c p k=Bg:=by
 constructor
 ·intro h
  rcases okf_reg c p k with e | e
  ·exact e
  exact absurd h e.1
 intro h;rw[h];rfl
theorem UO{x:Ar}(h:UR x):x.e=0↔x=Bg:=by
 constructor
 ·intro e
  rcases h with h | h
  ·exact h
  omega
 intro e;rw[e];rfl
section
variable {c:Aj}{p k:Nat}
theorem Ug(h:Bc (G6 c p)≠Bg):CX c p=Bc (G6 c p):=by
 have hB:IP c p=Bc (G6 c p):=by
  have:=L8 (f:=ES c p) (k:=0) (by rw[MR];exact h) (Nat.zero_le (EQ c p).Af.xs.length)
  rw[MR]at this;exact this
 unfold CX
 rw[hB,if_neg h]
theorem X7{o:Ar}{f:Nat→Ar}(ho:o=Bg){k:Nat}(hf:∀ a,a<k→f a=Bg):FZ o f k=Bg:=by
 subst ho;exact TS hf
theorem then_at{o:Ar}{f:Nat→Ar}(ho:o=Bg){k n:Nat}(hf:∀ a,a<k→f a=Bg)(hk:k<n)(hne:f k≠Bg):FZ o f n=f k:=by
 have h1:=Qp (X7 ho hf)
 have h2:=L8 (k:=k+1) (by rw[h1];exact hne) (show k+1≤n by omega)
 rw[h1]at h2;exact h2
theorem partQ_r(hA:Bc (G6 c p)=Bg)(hf:∀ a,a<k→ES c p a=Bg)(hk:k<(EQ c p).Af.xs.length)(hne:ES c p k≠Bg):CX c p=ES c p k:=by
 have hB:IP c p=ES c p k:=then_at hA hf hk hne
 unfold CX
 rw[hB,if_neg hne]
theorem Zd5(hB:IP c p=Bg)(hE:Bc (H9 c p)≠Bg):CX c p=Bc (H9 c p):=by
 unfold CX
 rw[if_pos hB]
 have:=L8 (f:=J8 c p) (k:=0) (by rw[MR];exact hE) (Nat.zero_le (EQ c p).Am.xs.length)
 rw[MR]at this;exact this
theorem partQ_q(hB:IP c p=Bg)(hE:Bc (H9 c p)=Bg)(hf:∀ a,a<k→J8 c p a=Bg)(hk:k<(EQ c p).Am.xs.length)(hne:J8 c p k≠Bg):CX c p=J8 c p k:=by
 unfold CX
 rw[if_pos hB]
 exact then_at hE hf hk hne
theorem partQ_f(hB:IP c p=Bg)(hE:Bc (H9 c p)=Bg)(hf:∀ a,a<(EQ c p).Am.xs.length→J8 c p a=Bg):CX c p=Bg:=by
 unfold CX
 rw[if_pos hB]
 exact X7 hE hf
theorem unl_no{b:Bool}{e:Int}{w:LU}(he:e≠0)(h:b=false):Ah b e w≠Bg:=by
 subst h;intro x;exact he (congrArg Ar.e x)
end
section
variable (z:Nat)(y16:A8)(c:Aj)
abbrev Oz:=bk (z+1) (A8.arr y16) 49
abbrev NS:=bk z (Aj.arr c) 26
abbrev Iy:=(7,pt (z+1))
end
theorem Zb3(w:World)(c:Aj)(hc:Aj.ok Any w c)(p k:Nat)(hp:p<c.Aa.xs.length)(hk:k<(gd c.Aa.xs p).Af.xs.length)(hFr:1≤c.Frames∧c.Frames≤1024)(hb:∀ q n,q≤p→n<(gd c.Aa.xs q).Af.xs.length→(q<p∨n<k)→Bd (EC c q n)):Calls Tryd.prog 34 #[.agg (Aj.arr c),.int .i64 (p:Int),.int .i64 (k:Int)] w fun e w'=>e = .returned (.int .i64 (ES c p k).e)∧CP (fun _=>False) w w':=by
 obtain⟨z,hz⟩:∃ z,z=w.heap.size:=⟨_,rfl⟩
 refine CE (args:=[.agg (Aj.arr c),Ac p,Ac k]) 91 ⟨w,z,[(Ak w)]⟩ Tryd.func34 rfl (by kernel_rfl) (by kernel_rfl) (Ep hz) ?_
 have hpl:=hc.Aa.1.len;have hpc:=hc.Aa.1.le;have hrl:=(hc.Aa.2 p hp).Af.1.len;have hrc:=(hc.Aa.2 p hp).Af.1.le
 refine DC [0,1,2] [(0,.agg (Aj.arr c)),(1,Ac p),(2,Ac k)] ?_
 refine q_c 5 0 [] [[o0,o0]] [] [(1,Ac p),(2,Ac k),(3,pt z)] ⟨w,z+1,[(Ak w),(NS z c)]⟩ rfl Ae ?_
 obtain⟨b1,o2,ha3,hF5,hc4⟩:=(hc.Aa).1.all (show 0<c.Aa.xs.length by omega)
 replace ha3:c.Aa.a=some ⟨b1,o2,none⟩:=ha3
 have hc6:=hc4 p (show p<c.Aa.xs.length by omega)
 have he7:=(hc.Aa).2 p (show p<c.Aa.xs.length by omega)
 obtain⟨y8,hy8⟩:∃ y_,y_=gd c.Aa.xs p:=⟨_,rfl⟩
 rw[←hy8]at he7 hc6
 have hley8:y8.Af.xs.length=(gd c.Aa.xs p).Af.xs.length:=(by rw[hy8]);have hyly8:=he7.Af.1.len
 obtain⟨b9,o10,ha11,hF13,hc12⟩:=(he7.Af).1.all (show 0<y8.Af.xs.length by omega)
 replace ha11:y8.Af.a=some ⟨b9,o10,none⟩:=ha11
 have hc14:=hc12 k (show k<y8.Af.xs.length by omega)
 have he15:=(he7.Af).2 k (show k<y8.Af.xs.length by omega)
 obtain⟨y16,hy16⟩:∃ y_,y_=gd y8.Af.xs k:=⟨_,rfl⟩
 rw[←hy16]at he15 hc14
 have e0y16:EC c p k=y16:=(by dsimp only[EC];rw[hy16,hy8]);have hgfy16:(-9223372036854775808:Int)≤y16.Frame∧y16.Frame≤9223372036854775807:=he15.Frame
 refine q_c 6 2 [] [[o0,(DN 1 b1 o2 c.Aa),o0,(oi p),o0,⟨.auto [.via 0 (.slice y8.Af.a y8.Af.xs.length y8.Af.cap)],some (.slice (some ⟨b9,o10,none⟩) y8.Af.xs.length y8.Af.cap)⟩,o0,(oi k),(ol 0 (A8.arr y16)),o0,(an 4 2)],[(an 7 1),(an 4 2)]] [Qb z,Dh b1 o2 c.Aa,Ci p,p<c.Aa.xs.length,BN,Old w b1 (o2+p*8+6) (.slice y8.Af.a y8.Af.xs.length y8.Af.cap),Dh b9 o10 y8.Af,Ci k,k<y8.Af.xs.length,BN,Fa w b9 (o10+k*4) (A8.arr y16),Qb (z+1),Qb (z+1),Qb (z+1),Qb (z+1),Qb z,Qb z,Qb z,Qb z,Qb z,Qb z,Qb z,Qb (z+1),Qb (z+1),Qb (z+1),Qb (z+1)] [(1,Ac p),(2,Ac k),(3,pt z),(Iy z),(22,.agg (Aj.arr c)),(23,.agg (A8.arr y16))] ⟨w,z+2,[(Ak w),(NS z c),(Oz z y16)]⟩ rfl ⟨rfl,Df ha3,rfl,(by omega),rfl,A7 (hc6 6 _ rfl),Df ha11,rfl,(by omega),rfl,Dt hc14,rfl,rfl,rfl,rfl,rfl,rfl,rfl,rfl,rfl,rfl,rfl,rfl,rfl,rfl,rfl,Ae⟩ ?_
 refine Bf 63 #[.agg (Aj.arr c),.agg (A8.arr y16)] (some 24) (.bool (Kr c y16)) (fun w17 hw17=>Zca w17 c (hc.ext (hw17.ext rfl) (fun _ h=>h)) hFr y16 (he15.ext (hw17.ext rfl) (fun _ h=>h))) (fun n18 (hn19:z+2≤n18) => ?_)
 refine Dc [1,2,3,7,24] [(1,Ac p),(2,Ac k),(3,pt z),(Iy z),(24,.bool (Kr c y16))] ?_
 by_cases h20:(Kr c y16)=true
 ·refine BP 11 0 [0] [[(ov (.bool false))],[o0]] [Value.bool (!(Kr c y16))=Value.bool false] [(1,Ac p),(2,Ac k),(3,pt z),(Iy z),(8,i6 0)] rfl ⟨by simp[h20],Ae⟩ ?_
  refine Di (fun m a w'=>∃ (n22:Nat) (i:Nat),m=k - i∧n18≤n22∧(i≤k)∧(∀ a,a<i→QD c p k a=false)∧St 91 [(1,Ac p),(2,Ac k),(3,pt z),(Iy z),(8,Ac i)] [] ⟨w,n22,[(Ak w),(NS z c),(Oz z y16)]⟩ a w') (k - 0) ?_ ?_
  ·intro a w' hs;exact⟨n18,0,rfl,Nat.le_refl _,Nat.zero_le _,fun i hi=>absurd hi (Nat.not_lt_zero i),hs⟩
  rintro m a w' ⟨n22,i,rfl,hn21,hki,hf,hs⟩
  refine(?_:G Tryd.prog 91 [(1,Ac p),(2,Ac k),(3,pt z),(Iy z),(8,Ac i)] [] ⟨w,n22,[(Ak w),(NS z c),(Oz z y16)]⟩ _ _ _) a w' hs
  clear hs a w'
  have hBk:=Yv hFr.2 h20;unfold Bd at hBk
  refine Ce <| Ce ?_
  by_cases h23:(i:Int)<(k:Int)
  ·refine Az 9 0 [1] [[o0,o0,oT]] [BT ((i:Int)<(k:Int))] [(1,Ac p),(2,Ac k),(3,pt z),(Iy z),(8,Ac i),(28,.bool true)] rfl ⟨bt,Ae⟩ ?_
   have hc24:=hc12 i (show i<y8.Af.xs.length by omega)
   have he25:=(he7.Af).2 i (show i<y8.Af.xs.length by omega)
   obtain⟨y26,hy26⟩:∃ y_,y_=gd y8.Af.xs i:=⟨_,rfl⟩
   rw[←hy26]at he25 hc24
   have e0y26:EC c p i=y26:=(by dsimp only[EC];rw[hy26,hy8]);have hgfy26:(-9223372036854775808:Int)≤y26.Frame∧y26.Frame≤9223372036854775807:=he25.Frame
   refine q_c 5 8 [] [[o0,(DN 1 b1 o2 c.Aa),o0,(oi p),o0,⟨.auto [.via 0 (.slice y8.Af.a y8.Af.xs.length y8.Af.cap)],some (.slice (some ⟨b9,o10,none⟩) y8.Af.xs.length y8.Af.cap)⟩,o0,(oi i),(ol 0 (A8.arr y26)),o0,(an 4 3)],[o0,(a1 2),o0,(a1 2),o0,(a1 3),o0,(a1 3)]] [Qb z,Dh b1 o2 c.Aa,Ci p,p<c.Aa.xs.length,BN,Old w b1 (o2+p*8+6) (.slice y8.Af.a y8.Af.xs.length y8.Af.cap),Dh b9 o10 y8.Af,Ci i,i<y8.Af.xs.length,BN,Fa w b9 (o10+i*4) (A8.arr y26),Qb n22,Qb n22,Qb n22,Qb n22,Qb (z+1),Qb (z+1),Qb n22,Qb n22] [(1,Ac p),(2,Ac k),(3,pt z),(Iy z),(8,Ac i),(41,i6 y16.Bj),(43,i6 y16.AV),(45,i6 y26.Bj),(47,i6 y26.AV)] ⟨w,n22+1,[(Ak w),(NS z c),(Oz z y16),(bk n22 (A8.arr y26) 49)]⟩ rfl ⟨rfl,Df ha3,rfl,(by omega),rfl,A7 (hc6 6 _ rfl),Df ha11,rfl,(by omega),rfl,Dt hc24,rfl,rfl,rfl,rfl,rfl,rfl,rfl,rfl,Ae⟩ ?_
   have hm28:=hb p i (by omega) (by omega) (by omega);rw[e0y26]at hm28;unfold Bd at hm28
   refine Bf 38 #[i6 y16.Bj,i6 y16.AV,i6 y26.Bj,i6 y26.AV] (some 48) (.bool (meet y16.Bj y16.AV y26.Bj y26.AV)) (fun w27 hw27=>Tq w27 y16.Bj y16.AV y26.Bj y26.AV (by omega) (by omega) (by omega) (by omega)) (fun n29 (hn30:n22+1≤n29) => ?_)
   refine Dc [1,2,3,7,8,48] [(1,Ac p),(2,Ac k),(3,pt z),(Iy z),(8,Ac i),(48,.bool (meet y16.Bj y16.AV y26.Bj y26.AV))] ?_
   refine TU (by kernel_rfl) ?_
   refine IM ?_
   by_cases h31:(meet y16.Bj y16.AV y26.Bj y26.AV)=true
   ·refine Az 6 0 [3] [[o0]] [Value.bool (meet y16.Bj y16.AV y26.Bj y26.AV)=Value.bool true] [(6,i6 410)] rfl ⟨(congrArg Value.bool h31),Ae⟩ ?_
    refine AA [] [] (i6 410) Ae ?_
    intro w32 hw32
    have hq:ES c p k=_:=regQ_b (by rw[e0y16];exact h20) (range_any (k:=i) (by omega) (by unfold QD;rw[e0y16,e0y26];exact h31))
    exact⟨congrArg (fun t:Ar=>Ending.returned (i6 t.e)) hq.symm,AO hw32⟩
   refine Az 6 0 [2] [[o0,(ov (i6 ((i+1:Nat):Int))),o0]] [Value.bool (meet y16.Bj y16.AV y26.Bj y26.AV)=Value.bool false,Wr ((i:Int)+1) (((i+1:Nat):Int))] [(1,Ac p),(2,Ac k),(3,pt z),(Iy z),(8,i6 ((i+1:Nat):Int))] rfl ⟨(congrArg Value.bool (Bool.eq_false_iff.2 h31)),BQ,Ae⟩ ?_
   refine Cb [0,1,2] [(Ak w),(NS z c),(Oz z y16)] rfl rfl ?_
   refine BK [1,2,3,7,8] [(1,Ac p),(2,Ac k),(3,pt z),(Iy z),(8,i6 ((i+1:Nat):Int))] ?_
   refine BD (fun a w' hs=>⟨k - (i+1),by omega,n29,(i+1),rfl,by omega,by omega,Fh hf (by unfold QD;rw[e0y16,e0y26];simpa using h31),hs⟩)
  refine Az 15 0 [0] [[o0,o0,oF],[o0]] [BF ((i:Int)<(k:Int))] [(1,Ac p),(2,Ac k),(3,pt z),(Iy z),(10,i6 0)] rfl ⟨bf,Ae⟩ ?_
  refine Di (fun m a w'=>∃ (n34:Nat) (q:Nat),m=p+1 - q∧n22≤n34∧(q≤p+1)∧(∀ a,a<q→Xy c p k a=false)∧St 91 [(1,Ac p),(2,Ac k),(3,pt z),(Iy z),(10,Ac q)] [] ⟨w,n34,[(Ak w),(NS z c),(Oz z y16)]⟩ a w') (p+1 - 0) ?_ ?_
  ·intro a w' hs;exact⟨n22,0,rfl,Nat.le_refl _,Nat.zero_le _,fun i hi=>absurd hi (Nat.not_lt_zero i),hs⟩
  rintro m a w' ⟨n34,q,rfl,hn33,hkq,hg,hs⟩
  refine(?_:G Tryd.prog 91 [(1,Ac p),(2,Ac k),(3,pt z),(Iy z),(10,Ac q)] [] ⟨w,n34,[(Ak w),(NS z c),(Oz z y16)]⟩ _ _ _) a w' hs
  clear hs a w'
  have hf0:(List.range k).any (QD c p k)=false:=GL (fun a ha=>hf a (by omega))
  refine Ce <| Ce ?_
  by_cases h35:(p:Int)<(q:Int)
  ·refine Az 14 0 [0] [[o0,o0,oF],[o0]] [BF ((q:Int)≤(p:Int))] [(6,i6 0)] rfl ⟨bf,Ae⟩ ?_
   refine AA [] [] (i6 0) Ae ?_
   intro w36 hw36
   have hq:ES c p k=_:=regQ_d (by rw[e0y16];exact h20) hf0 (GL (fun i hi=>hg i (by omega)))
   exact⟨congrArg (fun t:Ar=>Ending.returned (i6 t.e)) hq.symm,AO hw36⟩
  refine Az 13 0 [1] [[o0,o0,oT],[o0]] [BT ((q:Int)≤(p:Int))] [(1,Ac p),(2,Ac k),(3,pt z),(Iy z),(10,Ac q),(11,i6 0)] rfl ⟨bt,Ae⟩ ?_
  refine Di (fun m a w'=>∃ (n38:Nat) (n:Nat),m=(gd c.Aa.xs q).Af.xs.length - n∧n34≤n38∧(n≤(gd c.Aa.xs q).Af.xs.length)∧(∀ a,a<n→PR c p k q a=false)∧St 91 [(1,Ac p),(2,Ac k),(3,pt z),(Iy z),(10,Ac q),(11,Ac n)] [] ⟨w,n38,[(Ak w),(NS z c),(Oz z y16)]⟩ a w') ((gd c.Aa.xs q).Af.xs.length - 0) ?_ ?_
  ·intro a w' hs;exact⟨n34,0,rfl,Nat.le_refl _,Nat.zero_le _,fun i hi=>absurd hi (Nat.not_lt_zero i),hs⟩
  rintro m a w' ⟨n38,n,rfl,hn37,hkn,hh,hs⟩
  refine(?_:G Tryd.prog 91 [(1,Ac p),(2,Ac k),(3,pt z),(Iy z),(10,Ac q),(11,Ac n)] [] ⟨w,n38,[(Ak w),(NS z c),(Oz z y16)]⟩ _ _ _) a w' hs
  clear hs a w'
  refine Ce <| Ce ?_
  have hc39:=hc4 q (show q<c.Aa.xs.length by omega)
  have he40:=(hc.Aa).2 q (show q<c.Aa.xs.length by omega)
  obtain⟨y41,hy41⟩:∃ y_,y_=gd c.Aa.xs q:=⟨_,rfl⟩
  rw[←hy41]at he40 hc39
  have hley41:y41.Af.xs.length=(gd c.Aa.xs q).Af.xs.length:=(by rw[hy41]);have hyly41:=he40.Af.1.len
  by_cases h42:(n:Int)<(y41.Af.xs.length:Int)
  ·refine Az 10 0 [1] [[o0,o0,(DN 1 b1 o2 c.Aa),o0,(oi q),o0,(oa [.via 0 (.slice y41.Af.a y41.Af.xs.length y41.Af.cap)]),o0,oT]] [Qb z,Dh b1 o2 c.Aa,Ci q,q<c.Aa.xs.length,BN,Old w b1 (o2+q*8+6) (.slice y41.Af.a y41.Af.xs.length y41.Af.cap),BT ((n:Int)<(y41.Af.xs.length:Int))] [(1,Ac p),(2,Ac k),(3,pt z),(Iy z),(10,Ac q),(11,Ac n),(62,.bool true)] rfl ⟨rfl,Df ha3,rfl,(by omega),rfl,A7 (hc39 6 _ rfl),bt,Ae⟩ ?_
   by_cases h43:(q:Int)=(p:Int)
   ·by_cases h44:(n:Int)<(k:Int)
    ·refine Az 7 0 [0] [[o0,o0,oT,o0,o0,o0,oF,o0]] [ET (q:Int) (p:Int),BF ((n:Int)≥(k:Int))] [(1,Ac p),(2,Ac k),(3,pt z),(Iy z),(10,Ac q),(11,Ac n),(72,.bool false)] rfl ⟨et,bf,Ae⟩ ?_
     obtain⟨b45,o46,ha47,hF49,hc48⟩:=(he40.Af).1.all (show 0<y41.Af.xs.length by omega)
     replace ha47:y41.Af.a=some ⟨b45,o46,none⟩:=ha47
     have hc50:=hc48 n (show n<y41.Af.xs.length by omega)
     have he51:=(he40.Af).2 n (show n<y41.Af.xs.length by omega)
     obtain⟨y52,hy52⟩:∃ y_,y_=gd y41.Af.xs n:=⟨_,rfl⟩
     rw[←hy52]at he51 hc50
     have e0y52:EC c q n=y52:=(by dsimp only[EC];rw[hy52,hy41]);have hgfy52:(-9223372036854775808:Int)≤y52.Frame∧y52.Frame≤9223372036854775807:=he51.Frame
     refine q_c 5 8 [] [[o0,(DN 1 b1 o2 c.Aa),o0,(oi q),o0,⟨.auto [.via 0 (.slice y41.Af.a y41.Af.xs.length y41.Af.cap)],some (.slice (some ⟨b45,o46,none⟩) y41.Af.xs.length y41.Af.cap)⟩,o0,(oi n),(ol 0 (A8.arr y52)),o0,(an 4 3)],[o0,(a1 2),o0,(a1 2),o0,(a1 3),o0,(a1 3)]] [Qb z,Dh b1 o2 c.Aa,Ci q,q<c.Aa.xs.length,BN,Old w b1 (o2+q*8+6) (.slice y41.Af.a y41.Af.xs.length y41.Af.cap),Dh b45 o46 y41.Af,Ci n,n<y41.Af.xs.length,BN,Fa w b45 (o46+n*4) (A8.arr y52),Qb n38,Qb n38,Qb n38,Qb n38,Qb (z+1),Qb (z+1),Qb n38,Qb n38] [(1,Ac p),(2,Ac k),(3,pt z),(Iy z),(10,Ac q),(11,Ac n),(83,i6 y16.Frame),(85,i6 y16.AV),(87,i6 y52.Frame),(89,i6 y52.AV)] ⟨w,n38+1,[(Ak w),(NS z c),(Oz z y16),(bk n38 (A8.arr y52) 49)]⟩ rfl ⟨rfl,Df ha3,rfl,(by omega),rfl,A7 (hc39 6 _ rfl),Df ha47,rfl,(by omega),rfl,Dt hc50,rfl,rfl,rfl,rfl,rfl,rfl,rfl,rfl,Ae⟩ ?_
     have hm54:=hb q n (by omega) (by omega) (by omega);rw[e0y52]at hm54;unfold Bd at hm54
     refine Bf 38 #[i6 y16.Frame,i6 y16.AV,i6 y52.Frame,i6 y52.AV] (some 90) (.bool (meet y16.Frame y16.AV y52.Frame y52.AV)) (fun w53 hw53=>Tq w53 y16.Frame y16.AV y52.Frame y52.AV (by omega) (by omega) (by omega) (by omega)) (fun n55 (hn56:n38+1≤n55) => ?_)
     refine Dc [1,2,3,7,10,11,90] [(1,Ac p),(2,Ac k),(3,pt z),(Iy z),(10,Ac q),(11,Ac n),(90,.bool (meet y16.Frame y16.AV y52.Frame y52.AV))] ?_
     refine TU (by kernel_rfl) ?_
     refine IM ?_
     by_cases h57:(meet y16.Frame y16.AV y52.Frame y52.AV)=true
     ·refine Az 6 0 [3] [[o0]] [Value.bool (meet y16.Frame y16.AV y52.Frame y52.AV)=Value.bool true] [(6,i6 411)] rfl ⟨(congrArg Value.bool h57),Ae⟩ ?_
      refine AA [] [] (i6 411) Ae ?_
      intro w58 hw58
      have hq:ES c p k=_:=ZT (by rw[e0y16];exact h20) hf0 (range_any (k:=q) (by omega) (range_any (k:=n) (by dsimp only[EQ];omega) (by unfold PR;rw[e0y16,e0y52,h57];simp;omega)))
      exact⟨congrArg (fun t:Ar=>Ending.returned (i6 t.e)) hq.symm,AO hw58⟩
     refine Az 6 0 [2] [[o0,(ov (i6 ((n+1:Nat):Int))),o0]] [Value.bool (meet y16.Frame y16.AV y52.Frame y52.AV)=Value.bool false,Wr ((n:Int)+1) (((n+1:Nat):Int))] [(1,Ac p),(2,Ac k),(3,pt z),(Iy z),(10,Ac q),(11,i6 ((n+1:Nat):Int))] rfl ⟨(congrArg Value.bool (Bool.eq_false_iff.2 h57)),BQ,Ae⟩ ?_
     refine Cb [0,1,2] [(Ak w),(NS z c),(Oz z y16)] rfl rfl ?_
     refine BK [1,2,3,7,10,11] [(1,Ac p),(2,Ac k),(3,pt z),(Iy z),(10,Ac q),(11,i6 ((n+1:Nat):Int))] ?_
     refine BD (fun a w' hs=>⟨(gd c.Aa.xs q).Af.xs.length - (n+1),by omega,n55,(n+1),rfl,by omega,by omega,Fh hh (by unfold PR;rw[e0y16,e0y52];simp[h57]),hs⟩)
    refine Az 14 0 [1] [[o0,o0,oT,o0,o0,o0,oT,o0],[o0,(ov (i6 ((q+1:Nat):Int))),o0]] [ET (q:Int) (p:Int),BT ((n:Int)≥(k:Int)),Wr ((q:Int)+1) (((q+1:Nat):Int))] [(1,Ac p),(2,Ac k),(3,pt z),(Iy z),(10,i6 ((q+1:Nat):Int))] rfl ⟨et,bt,BQ,Ae⟩ ?_
    refine BD (fun a w' hs=>⟨p+1 - (q+1),by omega,n38,(q+1),rfl,by omega,by omega,Fh hg (GL (fun i hi=>if h9:i<n then hh i h9 else(by dsimp only[EQ]at hi;unfold PR;rw[show(decide (q<p)||decide (i<k))=false from by simp;omega];rfl))),hs⟩)
   refine Az 7 0 [0] [[o0,o0,oF,o0,o0]] [EF (q:Int) (p:Int)] [(1,Ac p),(2,Ac k),(3,pt z),(Iy z),(10,Ac q),(11,Ac n),(72,.bool false)] rfl ⟨ef,Ae⟩ ?_
   obtain⟨b59,o60,ha61,hF63,hc62⟩:=(he40.Af).1.all (show 0<y41.Af.xs.length by omega)
   replace ha61:y41.Af.a=some ⟨b59,o60,none⟩:=ha61
   have hc64:=hc62 n (show n<y41.Af.xs.length by omega)
   have he65:=(he40.Af).2 n (show n<y41.Af.xs.length by omega)
   obtain⟨y66,hy66⟩:∃ y_,y_=gd y41.Af.xs n:=⟨_,rfl⟩
   rw[←hy66]at he65 hc64
   have e0y66:EC c q n=y66:=(by dsimp only[EC];rw[hy66,hy41]);have hgfy66:(-9223372036854775808:Int)≤y66.Frame∧y66.Frame≤9223372036854775807:=he65.Frame
   refine q_c 5 8 [] [[o0,(DN 1 b1 o2 c.Aa),o0,(oi q),o0,⟨.auto [.via 0 (.slice y41.Af.a y41.Af.xs.length y41.Af.cap)],some (.slice (some ⟨b59,o60,none⟩) y41.Af.xs.length y41.Af.cap)⟩,o0,(oi n),(ol 0 (A8.arr y66)),o0,(an 4 3)],[o0,(a1 2),o0,(a1 2),o0,(a1 3),o0,(a1 3)]] [Qb z,Dh b1 o2 c.Aa,Ci q,q<c.Aa.xs.length,BN,Old w b1 (o2+q*8+6) (.slice y41.Af.a y41.Af.xs.length y41.Af.cap),Dh b59 o60 y41.Af,Ci n,n<y41.Af.xs.length,BN,Fa w b59 (o60+n*4) (A8.arr y66),Qb n38,Qb n38,Qb n38,Qb n38,Qb (z+1),Qb (z+1),Qb n38,Qb n38] [(1,Ac p),(2,Ac k),(3,pt z),(Iy z),(10,Ac q),(11,Ac n),(83,i6 y16.Frame),(85,i6 y16.AV),(87,i6 y66.Frame),(89,i6 y66.AV)] ⟨w,n38+1,[(Ak w),(NS z c),(Oz z y16),(bk n38 (A8.arr y66) 49)]⟩ rfl ⟨rfl,Df ha3,rfl,(by omega),rfl,A7 (hc39 6 _ rfl),Df ha61,rfl,(by omega),rfl,Dt hc64,rfl,rfl,rfl,rfl,rfl,rfl,rfl,rfl,Ae⟩ ?_
   have hm68:=hb q n (by omega) (by omega) (by omega);rw[e0y66]at hm68;unfold Bd at hm68
   refine Bf 38 #[i6 y16.Frame,i6 y16.AV,i6 y66.Frame,i6 y66.AV] (some 90) (.bool (meet y16.Frame y16.AV y66.Frame y66.AV)) (fun w67 hw67=>Tq w67 y16.Frame y16.AV y66.Frame y66.AV (by omega) (by omega) (by omega) (by omega)) (fun n69 (hn70:n38+1≤n69) => ?_)
   refine Dc [1,2,3,7,10,11,90] [(1,Ac p),(2,Ac k),(3,pt z),(Iy z),(10,Ac q),(11,Ac n),(90,.bool (meet y16.Frame y16.AV y66.Frame y66.AV))] ?_
   refine TU (by kernel_rfl) ?_
   refine IM ?_
   by_cases h71:(meet y16.Frame y16.AV y66.Frame y66.AV)=true
   ·refine Az 6 0 [3] [[o0]] [Value.bool (meet y16.Frame y16.AV y66.Frame y66.AV)=Value.bool true] [(6,i6 411)] rfl ⟨(congrArg Value.bool h71),Ae⟩ ?_
    refine AA [] [] (i6 411) Ae ?_
    intro w72 hw72
    have hq:ES c p k=_:=ZT (by rw[e0y16];exact h20) hf0 (range_any (k:=q) (by omega) (range_any (k:=n) (by dsimp only[EQ];omega) (by unfold PR;rw[e0y16,e0y66,h71];simp;omega)))
    exact⟨congrArg (fun t:Ar=>Ending.returned (i6 t.e)) hq.symm,AO hw72⟩
   refine Az 6 0 [2] [[o0,(ov (i6 ((n+1:Nat):Int))),o0]] [Value.bool (meet y16.Frame y16.AV y66.Frame y66.AV)=Value.bool false,Wr ((n:Int)+1) (((n+1:Nat):Int))] [(1,Ac p),(2,Ac k),(3,pt z),(Iy z),(10,Ac q),(11,i6 ((n+1:Nat):Int))] rfl ⟨(congrArg Value.bool (Bool.eq_false_iff.2 h71)),BQ,Ae⟩ ?_
   refine Cb [0,1,2] [(Ak w),(NS z c),(Oz z y16)] rfl rfl ?_
   refine BK [1,2,3,7,10,11] [(1,Ac p),(2,Ac k),(3,pt z),(Iy z),(10,Ac q),(11,i6 ((n+1:Nat):Int))] ?_
   refine BD (fun a w' hs=>⟨(gd c.Aa.xs q).Af.xs.length - (n+1),by omega,n69,(n+1),rfl,by omega,by omega,Fh hh (by unfold PR;rw[e0y16,e0y66];simp[h71]),hs⟩)
  refine Az 12 0 [0] [[o0,o0,(DN 1 b1 o2 c.Aa),o0,(oi q),o0,(oa [.via 0 (.slice y41.Af.a y41.Af.xs.length y41.Af.cap)]),o0,oF],[o0,(ov (i6 ((q+1:Nat):Int))),o0]] [Qb z,Dh b1 o2 c.Aa,Ci q,q<c.Aa.xs.length,BN,Old w b1 (o2+q*8+6) (.slice y41.Af.a y41.Af.xs.length y41.Af.cap),BF ((n:Int)<(y41.Af.xs.length:Int)),Wr ((q:Int)+1) (((q+1:Nat):Int))] [(1,Ac p),(2,Ac k),(3,pt z),(Iy z),(10,i6 ((q+1:Nat):Int))] rfl ⟨rfl,Df ha3,rfl,(by omega),rfl,A7 (hc39 6 _ rfl),bf,BQ,Ae⟩ ?_
  refine BD (fun a w' hs=>⟨p+1 - (q+1),by omega,n38,(q+1),rfl,by omega,by omega,Fh hg (GL (fun i hi=>if h9:i<n then hh i h9 else(by dsimp only[EQ]at hi;unfold PR;rw[show(decide (q<p)||decide (i<k))=false from by simp;omega];rfl))),hs⟩)
 refine BP 8 0 [1] [[(ov (.bool true))],[o0]] [Value.bool (!(Kr c y16))=Value.bool true] [(6,i6 409)] rfl ⟨by simp[h20],Ae⟩ ?_
 refine AA [] [] (i6 409) Ae ?_
 intro w73 hw73
 have hq:ES c p k=_:=UX (by rw[e0y16];simpa using h20)
 exact⟨congrArg (fun t:Ar=>Ending.returned (i6 t.e)) hq.symm,AO hw73⟩
section
variable (z p:Nat)(y8:Ap)(c:Aj)
abbrev TG:=bk (z+1) #[(Ac p),i6 (-1)] 34
abbrev UQ:=bk (z+1) #[i6 0,i6 0] 34
abbrev MN:=bk (z+2) (Ap.arr y8) 41
abbrev LK:=bk z (Aj.arr c) 26
abbrev Fb:=(5,pt (z+1))
abbrev Iw:=(6,pt (z+2))
end
theorem Zj(w:World)(c:Aj)(hc:Aj.ok Any w c)(p:Nat)(hp:p<c.Aa.xs.length)(hFr:1≤c.Frames∧c.Frames≤1024)(hpf:∀ q,q<p→CX c q=Bg):Calls Tryd.prog 23 #[.agg (Aj.arr c),.int .i64 (p:Int)] w fun e w'=>e = .returned (.tuple #[.int .i64 (CX c p).e,.agg #[.int .i64 (CX c p).Ai.First,.int .i64 (CX c p).Ai.Second]])∧CP (fun _=>False) w w':=by
 obtain⟨z,hz⟩:∃ z,z=w.heap.size:=⟨_,rfl⟩
 refine CE (args:=[.agg (Aj.arr c),Ac p]) 107 ⟨w,z,[(Ak w)]⟩ Tryd.func23 rfl (by kernel_rfl) (by kernel_rfl) (Ep hz) ?_
 have hpl:=hc.Aa.1.len;have hpc:=hc.Aa.1.le;have hcl:=hc.Ag.1.len
 refine DC [0,1] [(0,.agg (Aj.arr c)),(1,Ac p)] ?_
 refine q_c 5 0 [] [[o0,o0,o0]] [] [(1,Ac p),(2,pt z),(Fb z)] ⟨w,z+2,[(Ak w),(LK z c),(UQ z)]⟩ rfl Ae ?_
 obtain⟨b1,o2,ha3,hF5,hc4⟩:=(hc.Aa).1.all (show 0<c.Aa.xs.length by omega)
 replace ha3:c.Aa.a=some ⟨b1,o2,none⟩:=ha3
 have hc6:=hc4 p (show p<c.Aa.xs.length by omega)
 have he7:=(hc.Aa).2 p (show p<c.Aa.xs.length by omega)
 obtain⟨y8,hy8⟩:∃ y_,y_=gd c.Aa.xs p:=⟨_,rfl⟩
 rw[←hy8]at he7 hc6
 have eP:EQ c p=y8:=hy8.symm;have hyr:y8.Af.xs.length=(EQ c p).Af.xs.length:=(by rw[eP]);have hyq:y8.Am.xs.length=(EQ c p).Am.xs.length:=(by rw[eP]);have hyl:=he7.Af.1.len;have hyl2:=he7.Am.1.len
 refine q_c 7 2 [] [[o0,(DN 1 b1 o2 c.Aa),o0,(oi p),(ol 0 (Ap.arr y8)),o0,(an 8 3)],[(an 7 1),o0]] [Qb z,Dh b1 o2 c.Aa,Ci p,p<c.Aa.xs.length,BN,Fa w b1 (o2+p*8) (Ap.arr y8),Qb (z+2),Qb (z+2),Qb (z+2),Qb (z+2),Qb (z+2),Qb (z+2),Qb (z+2),Qb (z+2),Qb z,Qb z,Qb z,Qb z,Qb z,Qb z,Qb z] [(1,Ac p),(2,pt z),(Fb z),(Iw z),(16,.agg (Aj.arr c)),(17,Ac p)] ⟨w,z+3,[(Ak w),(LK z c),(UQ z),(MN z y8)]⟩ rfl ⟨rfl,Df ha3,rfl,(by omega),rfl,Dt hc6,rfl,rfl,rfl,rfl,rfl,rfl,rfl,rfl,rfl,rfl,rfl,rfl,rfl,rfl,rfl,Ae⟩ ?_
 refine Bf 33 #[.agg (Aj.arr c),Ac p] (some 18) (.bool (AX c p)) (fun w9 hw9=>ZbV w9 c (hc.ext (hw9.ext rfl) (fun _ h=>h)) p hp) (fun n10 (hn11:z+3≤n10) => ?_)
 refine Dc [1,2,5,6,18] [(1,Ac p),(2,pt z),(Fb z),(Iw z),(18,.bool (AX c p))] ?_
 by_cases h12:(AX c p)=true
 ·refine BP 5 2 [0] [[(ov (.bool false)),o0],[o0,(a1 3)]] [Value.bool (!(AX c p))=Value.bool false,Qb (z+2)] [(1,Ac p),(2,pt z),(Fb z),(Iw z),(24,i6 y8.DK)] rfl ⟨by simp[h12],rfl,Ae⟩ ?_
  refine Bf 32 #[i6 y8.DK,i6 0,i6 2] (some 25) (.bool (win y8.DK 0 2)) (fun w13 hw13=>G7 w13 y8.DK 0 2) (fun n14 (hn15:n10≤n14) => ?_)
  refine Dc [1,2,5,6,25] [(1,Ac p),(2,pt z),(Fb z),(Iw z),(25,.bool (win y8.DK 0 2))] ?_
  by_cases h16:(win y8.DK 0 2)=true
  ·have hd17:=EE h16
   refine BP 0 4 [] [[(ov (.bool false)),o0,o0,(a1 3)]] [Value.bool (!(win y8.DK 0 2))=Value.bool false,Qb (z+2)] [(1,Ac p),(2,pt z),(Fb z),(Iw z),(27,.bool false),(29,i6 y8.AY)] rfl ⟨by simp[h16],rfl,Ae⟩ ?_
   refine Bf 32 #[i6 y8.AY,i6 0,i6 15] (some 30) (.bool (win y8.AY 0 15)) (fun w18 hw18=>G7 w18 y8.AY 0 15) (fun n19 (hn20:n14≤n19) => ?_)
   refine Dc [1,2,5,6,27,30] [(1,Ac p),(2,pt z),(Fb z),(Iw z),(27,.bool false),(30,.bool (win y8.AY 0 15))] ?_
   by_cases h21:(win y8.AY 0 15)=true
   ·have hd22:=EE h21
    refine BP 5 2 [0] [[(ov (.bool false)),o0,o0],[o0,(a1 3)]] [Value.bool (!(win y8.AY 0 15))=Value.bool false,Qb (z+2)] [(1,Ac p),(2,pt z),(Fb z),(Iw z),(37,i6 y8.DI)] rfl ⟨by simp[h21],rfl,Ae⟩ ?_
    refine Bf 32 #[i6 y8.DI,i6 0,i6 16] (some 38) (.bool (win y8.DI 0 16)) (fun w23 hw23=>G7 w23 y8.DI 0 16) (fun n24 (hn25:n19≤n24) => ?_)
    refine Dc [1,2,5,6,38] [(1,Ac p),(2,pt z),(Fb z),(Iw z),(38,.bool (win y8.DI 0 16))] ?_
    by_cases h26:(win y8.DI 0 16)=true
    ·have hd27:=EE h26
     refine BP 0 4 [] [[(ov (.bool false)),o0,o0,(a1 3)]] [Value.bool (!(win y8.DI 0 16))=Value.bool false,Qb (z+2)] [(1,Ac p),(2,pt z),(Fb z),(Iw z),(40,.bool false),(42,i6 y8.Bi)] rfl ⟨by simp[h26],rfl,Ae⟩ ?_
     refine Bf 32 #[i6 y8.Bi,i6 0,i6 16] (some 43) (.bool (win y8.Bi 0 16)) (fun w28 hw28=>G7 w28 y8.Bi 0 16) (fun n29 (hn30:n24≤n29) => ?_)
     refine Dc [1,2,5,6,40,43] [(1,Ac p),(2,pt z),(Fb z),(Iw z),(40,.bool false),(43,.bool (win y8.Bi 0 16))] ?_
     by_cases h31:(win y8.Bi 0 16)=true
     ·have hd32:=EE h31
      refine BP 5 3 [0] [[(ov (.bool false)),o0,o0],[o0,(a1 3),o0]] [Value.bool (!(win y8.Bi 0 16))=Value.bool false,Qb (z+2)] [(1,Ac p),(2,pt z),(Fb z),(Iw z),(51,Ac y8.Af.xs.length)] rfl ⟨by simp[h31],rfl,Ae⟩ ?_
      refine Bf 32 #[(Ac y8.Af.xs.length),i6 1,i6 8] (some 52) (.bool (win (y8.Af.xs.length:Int) 1 8)) (fun w33 hw33=>G7 w33 (y8.Af.xs.length:Int) 1 8) (fun n34 (hn35:n29≤n34) => ?_)
      refine Dc [1,2,5,6,52] [(1,Ac p),(2,pt z),(Fb z),(Iw z),(52,.bool (win (y8.Af.xs.length:Int) 1 8))] ?_
      by_cases h36:(win (y8.Af.xs.length:Int) 1 8)=true
      ·have hd37:=EE h36
       refine BP 12 0 [0] [[(ov (.bool false)),o0],[o0]] [Value.bool (!(win (y8.Af.xs.length:Int) 1 8))=Value.bool false] [(1,Ac p),(2,pt z),(Fb z),(Iw z),(7,i6 0)] rfl ⟨by simp[h36],Ae⟩ ?_
       refine Di (fun m a w'=>∃ (n39:Nat) (k:Nat),m=(EQ c p).Af.xs.length - k∧n34≤n39∧(k≤(EQ c p).Af.xs.length)∧(∀ a,a<k→ES c p a=Bg)∧St 107 [(1,Ac p),(2,pt z),(Fb z),(Iw z),(7,Ac k)] [] ⟨w,n39,[(Ak w),(LK z c),(UQ z),(MN z y8)]⟩ a w') ((EQ c p).Af.xs.length - 0) ?_ ?_
       ·intro a w' hs;exact⟨n34,0,rfl,Nat.le_refl _,Nat.zero_le _,fun i hi=>absurd hi (Nat.not_lt_zero i),hs⟩
       rintro m a w' ⟨n39,k,rfl,hn38,hkk,hf,hs⟩
       refine(?_:G Tryd.prog 107 [(1,Ac p),(2,pt z),(Fb z),(Iw z),(7,Ac k)] [] ⟨w,n39,[(Ak w),(LK z c),(UQ z),(MN z y8)]⟩ _ _ _) a w' hs
       clear hs a w'
       have hA0:Bc (G6 c p)=Bg:=by unfold G6;simp only[eP];simp[Bc,Ah,Bg,h12,h16,h21,h26,h31,h36]
       refine Ce <| Ce ?_
       by_cases h40:(k:Int)<(y8.Af.xs.length:Int)
       ·refine Az 10 3 [1] [[o0,o0,(a1 3),o0,oT],[(an 7 1),o0,o0]] [Qb (z+2),BT ((k:Int)<(y8.Af.xs.length:Int)),Qb z,Qb z,Qb z,Qb z,Qb z,Qb z,Qb z] [(1,Ac p),(2,pt z),(Fb z),(Iw z),(7,Ac k),(63,.agg (Aj.arr c)),(64,Ac p),(65,Ac k)] rfl ⟨rfl,bt,rfl,rfl,rfl,rfl,rfl,rfl,rfl,Ae⟩ ?_
        refine Bf 34 #[.agg (Aj.arr c),Ac p,Ac k] (some 66) (i6 ((ES c p k).e)) (fun w41 hw41=>Zb3 w41 c (hc.ext (hw41.ext rfl) (fun _ h=>h)) p k hp (show k<(EQ c p).Af.xs.length by omega) hFr (bd_all hFr hpf hf)) (fun n42 (hn43:n39≤n42) => ?_)
        refine BP 3 0 [] [[o0]] [] [(1,Ac p),(2,pt z),(Fb z),(Iw z),(7,Ac k),(8,i6 ((ES c p k).e))] rfl Ae ?_
        by_cases h44:((ES c p k).e:Int)=0
        ·refine Az 9 0 [0] [[o0,oF],[o0,(ov (i6 ((k+1:Nat):Int))),o0]] [NF ((ES c p k).e) 0,Wr ((k:Int)+1) (((k+1:Nat):Int))] [(1,Ac p),(2,pt z),(Fb z),(Iw z),(7,i6 ((k+1:Nat):Int))] rfl ⟨nf,BQ,Ae⟩ ?_
         refine BD (fun a w' hs=>⟨(EQ c p).Af.xs.length - (k+1),by omega,n42,(k+1),rfl,by omega,by omega,Fh hf (Za.1 h44),hs⟩)
        refine q_c 9 0 [1] [[o0,oT],[o0,o0,o0,o0,o0,(an 2 2)]] [NT ((ES c p k).e) 0,Qb (z+1),Qb (z+1)] [(Fb z),(4,i6 ((ES c p k).e))] ⟨w,n42,[(Ak w),(LK z c),(bk (z+1) #[(Ac p),Ac k] 34),(MN z y8)]⟩ rfl ⟨nt,rfl,rfl,Ae⟩ ?_
        refine AA [.at 2,.at 2] [Qb (z+1),Qb (z+1)] (.tuple #[i6 ((ES c p k).e),.agg #[(Ac p),Ac k]]) ⟨rfl,rfl,Ae⟩ ?_
        intro w45 hw45
        have hw9:(ES c p k).Ai=⟨p,k⟩:=by rcases okf_reg c p k with e | e;exact absurd (Za.2 e) h44;exact e.2
        have hq:CX c p=ES c p k:=partQ_r hA0 hf (by omega) (fun e=>h44 (Za.2 e))
        exact⟨congrArg Ending.returned (by rw[hq,hw9]),AO hw45⟩
       refine Az 12 1 [0] [[o0,o0,(a1 3),o0,oF],[(an 8 3)]] [Qb (z+2),BF ((k:Int)<(y8.Af.xs.length:Int)),Qb (z+2),Qb (z+2),Qb (z+2),Qb (z+2),Qb (z+2),Qb (z+2),Qb (z+2),Qb (z+2)] [(1,Ac p),(2,pt z),(Fb z),(Iw z),(73,.agg (Ap.arr y8))] rfl ⟨rfl,bf,rfl,rfl,rfl,rfl,rfl,rfl,rfl,rfl,Ae⟩ ?_
       have hBf:∀ a,a<(EQ c p).Af.xs.length→ES c p a=Bg:=fun a ha=>hf a (by omega)
       have hB0:IP c p=Bg:=X7 hA0 hBf
       refine Bf 35 #[.agg (Ap.arr y8)] (some 74) (.bool (Oi y8)) (fun w46 hw46=>ZbO w46 y8 (he7.ext (hw46.ext rfl) (fun _ h=>h)) (fun k hk=>by have hz:=Yv hFr.2 (XI (hBf k (by rw[←hyr];exact hk)));rw[show EC c p k=gd y8.Af.xs k from by dsimp only[EC];rw[←hy8]]at hz;unfold Bd at hz;exact⟨hz.1,hz.2.1⟩)) (fun n47 (hn48:n39≤n47) => ?_)
       refine Dc [1,2,5,6,74] [(1,Ac p),(2,pt z),(Fb z),(Iw z),(74,.bool (Oi y8))] ?_
       by_cases h49:(Oi y8)=true
       ·refine BP 7 0 [0] [[(ov (.bool false))]] [Value.bool (!(Oi y8))=Value.bool false] [(1,Ac p),(2,pt z),(Fb z),(Iw z),(75,.bool false)] rfl ⟨by simp[h49],Ae⟩ ?_
        by_cases h50:(8:Int)<(y8.Am.xs.length:Int)
        ·refine Az 6 1 [1] [[o0,(a1 3),o0,oT],[o0]] [Qb (z+2),BT ((y8.Am.xs.length:Int) > 8)] [(Fb z),(82,Ac p)] rfl ⟨rfl,bt,Ae⟩ ?_
         refine Bf 25 #[(Ac p)] (some 83) (.agg #[(Ac p),i6 (-1)]) (fun w51 hw51=>JZ w51 (p:Int)) (fun n52 (hn53:n47≤n52) => ?_)
         refine EY 3 0 [] [[o0,(an 2 2)]] [Qb (z+1),Qb (z+1)] [(Fb z),(4,i6 413)] ⟨w,n52,[(Ak w),(LK z c),(TG z p),(MN z y8)]⟩ rfl ⟨rfl,rfl,Ae⟩ ?_
         refine AA [.at 2,.at 2] [Qb (z+1),Qb (z+1)] (.tuple #[i6 413,.agg #[(Ac p),i6 (-1)]]) ⟨rfl,rfl,Ae⟩ ?_
         intro w54 hw54
         have hq:CX c p=⟨413,⟨(p:Int), -1⟩⟩:=(Zd5 hB0 (by unfold H9;simp only[eP];rw[show(win y8.Entry 0 4095&&GK y8)=true from h49];(try simp[Bc,Ah,Bg,show ¬ y8.Am.xs.length≤8 by omega]))).trans (by unfold H9;simp only[eP];rw[show(win y8.Entry 0 4095&&GK y8)=true from h49];(try simp[Bc,Ah,Bg,show ¬ y8.Am.xs.length≤8 by omega]))
         exact⟨congrArg (fun t:Ar=>Ending.returned (.tuple #[i6 t.e,.agg #[i6 t.Ai.First,i6 t.Ai.Second]])) hq.symm,AO hw54⟩
        refine Az 12 0 [0] [[o0,(a1 3),o0,oF],[o0]] [Qb (z+2),BF ((y8.Am.xs.length:Int) > 8)] [(1,Ac p),(2,pt z),(Fb z),(Iw z),(9,i6 0)] rfl ⟨rfl,bf,Ae⟩ ?_
        refine Di (fun m a w'=>∃ (n56:Nat) (k:Nat),m=(EQ c p).Am.xs.length - k∧n47≤n56∧(k≤(EQ c p).Am.xs.length)∧(∀ a,a<k→J8 c p a=Bg)∧St 107 [(1,Ac p),(2,pt z),(Fb z),(Iw z),(9,Ac k)] [] ⟨w,n56,[(Ak w),(LK z c),(UQ z),(MN z y8)]⟩ a w') ((EQ c p).Am.xs.length - 0) ?_ ?_
        ·intro a w' hs;exact⟨n47,0,rfl,Nat.le_refl _,Nat.zero_le _,fun i hi=>absurd hi (Nat.not_lt_zero i),hs⟩
        rintro m a w' ⟨n56,k,rfl,hn55,hkk,hg,hs⟩
        refine(?_:G Tryd.prog 107 [(1,Ac p),(2,pt z),(Fb z),(Iw z),(9,Ac k)] [] ⟨w,n56,[(Ak w),(LK z c),(UQ z),(MN z y8)]⟩ _ _ _) a w' hs
        clear hs a w'
        have hE0:Bc (H9 c p)=Bg:=by unfold H9;simp only[eP];rw[show(win y8.Entry 0 4095&&GK y8)=true from h49];simp[Bc,Ah,Bg,show y8.Am.xs.length≤8 by omega]
        refine Ce <| Ce ?_
        by_cases h57:(k:Int)<(y8.Am.xs.length:Int)
        ·refine Az 9 0 [1] [[o0,o0,(a1 3),o0,oT]] [Qb (z+2),BT ((k:Int)<(y8.Am.xs.length:Int))] [(1,Ac p),(2,pt z),(Fb z),(Iw z),(9,Ac k),(88,.bool true)] rfl ⟨rfl,bt,Ae⟩ ?_
         obtain⟨b58,o59,ha60,hF62,hc61⟩:=(he7.Am).1.all (show 0<y8.Am.xs.length by omega)
         replace ha60:y8.Am.a=some ⟨b58,o59,none⟩:=ha60
         have hc63:=hc61 k (show k<y8.Am.xs.length by omega)
         have he64:=(he7.Am).2 k (show k<y8.Am.xs.length by omega)
         obtain⟨y65,hy65⟩:∃ y_,y_=gd y8.Am.xs k:=⟨_,rfl⟩
         rw[←hy65]at he64 hc63
         have eQ:Xe c p k=y65:=(by dsimp only[Xe];rw[hy65,hy8])
         refine Eh 12 [0,1,2,3] [(Ak w),(LK z c),(UQ z),(MN z y8)] rfl rfl ?_
         refine JB [.tk 0 o0,.tk 1 (DN 3 b58 o59 y8.Am),.tk 2 o0,.tk 3 (oi k),.tk 4 o0,.tk 5 (oa [.via 0 (i6 y65.Channel)]),.tk 6 o0,.tk 7 (a1 1),.tk 8 o0,.tk 9 (ov (i6 ((c.Ag.xs.length:Int) - 1))),.cl 10 (.bool (win y65.Channel 0 ((c.Ag.xs.length:Int) - 1)))] [1,2,5,6,9,101] [(32,#[i6 y65.Channel,i6 0,i6 ((c.Ag.xs.length:Int) - 1)],.bool (win y65.Channel 0 ((c.Ag.xs.length:Int) - 1)))] (DF 11 1) [Qb (z+2),Dh b58 o59 y8.Am,Ci k,k<y8.Am.xs.length,BN,Old w b58 (o59+k*2) (i6 y65.Channel),Qb z,Wr ((c.Ag.xs.length:Int) - 1) ((c.Ag.xs.length:Int) - 1)] [(1,Ac p),(2,pt z),(Fb z),(Iw z),(9,Ac k),(101,.bool (win y65.Channel 0 ((c.Ag.xs.length:Int) - 1)))] [0,1,2,3] ⟨rfl,Df ha60,rfl,(by omega),rfl,A7 (hc63 0 _ rfl),rfl,BQ,Ae⟩ ⟨fun w66 hw66=>G7 w66 y65.Channel 0 ((c.Ag.xs.length:Int) - 1),Ae⟩ (fun n67 hn68 => ?_)
         replace hn68:n56≤n67:=hn68
         by_cases h69:(win y65.Channel 0 ((c.Ag.xs.length:Int) - 1))=true
         ·have hd70:=EE h69
          refine Dj [(11,(ov (.bool false)))] [1,2,5,6,9,102] [Value.bool (!(win y65.Channel 0 ((c.Ag.xs.length:Int) - 1)))=Value.bool false] (DF 12 0) [(1,Ac p),(2,pt z),(Fb z),(Iw z),(9,Ac k),(102,.bool false)] ⟨by simp[h69],Ae⟩ ?_
          refine CU ?_
          refine Jw 7 0 [0] [[o0,(ov (i6 ((k+1:Nat):Int))),o0]] [Wr ((k:Int)+1) (((k+1:Nat):Int))] [(1,Ac p),(2,pt z),(Fb z),(Iw z),(9,i6 ((k+1:Nat):Int))] rfl ⟨BQ,Ae⟩ ?_
          refine BD (fun a w' hs=>⟨(EQ c p).Am.xs.length - (k+1),by omega,n67,(k+1),rfl,by omega,by omega,Fh hg (by unfold J8;rw[eQ,h69];rfl),hs⟩)
         have hd71:=FQ h69
         refine Dj [(11,(ov (.bool true)))] [1,2,5,6,9,102] [Value.bool (!(win y65.Channel 0 ((c.Ag.xs.length:Int) - 1)))=Value.bool true] (DF 12 0) [(1,Ac p),(2,pt z),(Fb z),(Iw z),(9,Ac k),(102,.bool true)] ⟨by simp[h69],Ae⟩ ?_
         refine CU ?_
         refine q_o 7 0 [1] [[o0,o0,o0,o0,(an 2 2)]] [Qb (z+1),Qb (z+1)] [(Fb z),(4,i6 414)] ⟨w,n67,[(Ak w),(LK z c),(bk (z+1) #[(Ac p),Ac k] 34),(MN z y8)]⟩ rfl ⟨rfl,rfl,Ae⟩ ?_
         refine AA [.at 2,.at 2] [Qb (z+1),Qb (z+1)] (.tuple #[i6 414,.agg #[(Ac p),Ac k]]) ⟨rfl,rfl,Ae⟩ ?_
         intro w72 hw72
         have hq:CX c p=⟨414,⟨(p:Int),(k:Int)⟩⟩:=(partQ_q hB0 hE0 hg (by omega) (by unfold J8;rw[eQ];exact unl_no (by decide) (by simpa using h69))).trans (by unfold J8;rw[eQ,show win y65.Channel 0 ((c.Ag.xs.length:Nat) - 1)=false from by simpa using h69];rfl)
         exact⟨congrArg (fun t:Ar=>Ending.returned (.tuple #[i6 t.e,.agg #[i6 t.Ai.First,i6 t.Ai.Second]])) hq.symm,AO hw72⟩
        refine Az 14 0 [0] [[o0,o0,(a1 3),o0,oF],[o0,o0,(an 2 2)]] [Qb (z+2),BF ((k:Int)<(y8.Am.xs.length:Int)),Qb (z+1),Qb (z+1)] [(Fb z),(4,i6 0)] rfl ⟨rfl,bf,rfl,rfl,Ae⟩ ?_
        refine AA [.at 2,.at 2] [Qb (z+1),Qb (z+1)] (.tuple #[i6 0,.agg #[i6 0,i6 0]]) ⟨rfl,rfl,Ae⟩ ?_
        intro w73 hw73
        have hq:CX c p=⟨0,⟨0,0⟩⟩:=(partQ_f hB0 hE0 (fun a ha=>hg a (by omega))).trans rfl
        exact⟨congrArg (fun t:Ar=>Ending.returned (.tuple #[i6 t.e,.agg #[i6 t.Ai.First,i6 t.Ai.Second]])) hq.symm,AO hw73⟩
       refine BP 5 1 [1] [[(ov (.bool true))],[o0]] [Value.bool (!(Oi y8))=Value.bool true] [(Fb z),(76,Ac p)] rfl ⟨by simp[h49],Ae⟩ ?_
       refine Bf 25 #[(Ac p)] (some 77) (.agg #[(Ac p),i6 (-1)]) (fun w74 hw74=>JZ w74 (p:Int)) (fun n75 (hn76:n47≤n75) => ?_)
       refine EY 3 0 [] [[o0,(an 2 2)]] [Qb (z+1),Qb (z+1)] [(Fb z),(4,i6 412)] ⟨w,n75,[(Ak w),(LK z c),(TG z p),(MN z y8)]⟩ rfl ⟨rfl,rfl,Ae⟩ ?_
       refine AA [.at 2,.at 2] [Qb (z+1),Qb (z+1)] (.tuple #[i6 412,.agg #[(Ac p),i6 (-1)]]) ⟨rfl,rfl,Ae⟩ ?_
       intro w77 hw77
       have hq:CX c p=⟨412,⟨(p:Int), -1⟩⟩:=(Zd5 hB0 (by unfold H9;simp only[eP];rw[show(win y8.Entry 0 4095&&GK y8)=false from by simpa[Oi]using h49];(try simp[Bc,Ah,Bg]))).trans (by unfold H9;simp only[eP];rw[show(win y8.Entry 0 4095&&GK y8)=false from by simpa[Oi]using h49];(try simp[Bc,Ah,Bg]))
       exact⟨congrArg (fun t:Ar=>Ending.returned (.tuple #[i6 t.e,.agg #[i6 t.Ai.First,i6 t.Ai.Second]])) hq.symm,AO hw77⟩
      have hd78:=FQ h36
      refine BP 5 1 [1] [[(ov (.bool true)),o0],[o0]] [Value.bool (!(win (y8.Af.xs.length:Int) 1 8))=Value.bool true] [(Fb z),(54,Ac p)] rfl ⟨by simp[h36],Ae⟩ ?_
      refine Bf 25 #[(Ac p)] (some 55) (.agg #[(Ac p),i6 (-1)]) (fun w79 hw79=>JZ w79 (p:Int)) (fun n80 (hn81:n34≤n80) => ?_)
      refine EY 3 0 [] [[o0,(an 2 2)]] [Qb (z+1),Qb (z+1)] [(Fb z),(4,i6 408)] ⟨w,n80,[(Ak w),(LK z c),(TG z p),(MN z y8)]⟩ rfl ⟨rfl,rfl,Ae⟩ ?_
      refine AA [.at 2,.at 2] [Qb (z+1),Qb (z+1)] (.tuple #[i6 408,.agg #[(Ac p),i6 (-1)]]) ⟨rfl,rfl,Ae⟩ ?_
      intro w82 hw82
      have hq:CX c p=⟨408,⟨(p:Int), -1⟩⟩:=(Ug (by unfold G6;simp only[eP];(try simp[Bc,Ah,Bg,h12,h16,h21,h26,h31,h36]))).trans (by unfold G6;simp only[eP];(try simp[Bc,Ah,Bg,h12,h16,h21,h26,h31,h36]))
      exact⟨congrArg (fun t:Ar=>Ending.returned (.tuple #[i6 t.e,.agg #[i6 t.Ai.First,i6 t.Ai.Second]])) hq.symm,AO hw82⟩
     have hd83:=FQ h31
     refine BP 5 1 [1] [[(ov (.bool true)),o0,o0],[o0]] [Value.bool (!(win y8.Bi 0 16))=Value.bool true] [(Fb z),(46,Ac p)] rfl ⟨by simp[h31],Ae⟩ ?_
     refine Bf 25 #[(Ac p)] (some 47) (.agg #[(Ac p),i6 (-1)]) (fun w84 hw84=>JZ w84 (p:Int)) (fun n85 (hn86:n29≤n85) => ?_)
     refine EY 3 0 [] [[o0,(an 2 2)]] [Qb (z+1),Qb (z+1)] [(Fb z),(4,i6 407)] ⟨w,n85,[(Ak w),(LK z c),(TG z p),(MN z y8)]⟩ rfl ⟨rfl,rfl,Ae⟩ ?_
     refine AA [.at 2,.at 2] [Qb (z+1),Qb (z+1)] (.tuple #[i6 407,.agg #[(Ac p),i6 (-1)]]) ⟨rfl,rfl,Ae⟩ ?_
     intro w87 hw87
     have hq:CX c p=⟨407,⟨(p:Int), -1⟩⟩:=(Ug (by unfold G6;simp only[eP];(try simp[Bc,Ah,Bg,h12,h16,h21,h26,h31]))).trans (by unfold G6;simp only[eP];(try simp[Bc,Ah,Bg,h12,h16,h21,h26,h31]))
     exact⟨congrArg (fun t:Ar=>Ending.returned (.tuple #[i6 t.e,.agg #[i6 t.Ai.First,i6 t.Ai.Second]])) hq.symm,AO hw87⟩
    have hd88:=FQ h26
    refine BP 5 1 [1] [[(ov (.bool true)),o0,o0,o0],[o0]] [Value.bool (!(win y8.DI 0 16))=Value.bool true] [(Fb z),(46,Ac p)] rfl ⟨by simp[h26],Ae⟩ ?_
    refine Bf 25 #[(Ac p)] (some 47) (.agg #[(Ac p),i6 (-1)]) (fun w89 hw89=>JZ w89 (p:Int)) (fun n90 (hn91:n24≤n90) => ?_)
    refine EY 3 0 [] [[o0,(an 2 2)]] [Qb (z+1),Qb (z+1)] [(Fb z),(4,i6 407)] ⟨w,n90,[(Ak w),(LK z c),(TG z p),(MN z y8)]⟩ rfl ⟨rfl,rfl,Ae⟩ ?_
    refine AA [.at 2,.at 2] [Qb (z+1),Qb (z+1)] (.tuple #[i6 407,.agg #[(Ac p),i6 (-1)]]) ⟨rfl,rfl,Ae⟩ ?_
    intro w92 hw92
    have hq:CX c p=⟨407,⟨(p:Int), -1⟩⟩:=(Ug (by unfold G6;simp only[eP];(try simp[Bc,Ah,Bg,h12,h16,h21,h26]))).trans (by unfold G6;simp only[eP];(try simp[Bc,Ah,Bg,h12,h16,h21,h26]))
    exact⟨congrArg (fun t:Ar=>Ending.returned (.tuple #[i6 t.e,.agg #[i6 t.Ai.First,i6 t.Ai.Second]])) hq.symm,AO hw92⟩
   have hd93:=FQ h21
   refine BP 5 1 [1] [[(ov (.bool true)),o0,o0],[o0]] [Value.bool (!(win y8.AY 0 15))=Value.bool true] [(Fb z),(33,Ac p)] rfl ⟨by simp[h21],Ae⟩ ?_
   refine Bf 25 #[(Ac p)] (some 34) (.agg #[(Ac p),i6 (-1)]) (fun w94 hw94=>JZ w94 (p:Int)) (fun n95 (hn96:n19≤n95) => ?_)
   refine EY 3 0 [] [[o0,(an 2 2)]] [Qb (z+1),Qb (z+1)] [(Fb z),(4,i6 406)] ⟨w,n95,[(Ak w),(LK z c),(TG z p),(MN z y8)]⟩ rfl ⟨rfl,rfl,Ae⟩ ?_
   refine AA [.at 2,.at 2] [Qb (z+1),Qb (z+1)] (.tuple #[i6 406,.agg #[(Ac p),i6 (-1)]]) ⟨rfl,rfl,Ae⟩ ?_
   intro w97 hw97
   have hq:CX c p=⟨406,⟨(p:Int), -1⟩⟩:=(Ug (by unfold G6;simp only[eP];(try simp[Bc,Ah,Bg,h12,h16,h21]))).trans (by unfold G6;simp only[eP];(try simp[Bc,Ah,Bg,h12,h16,h21]))
   exact⟨congrArg (fun t:Ar=>Ending.returned (.tuple #[i6 t.e,.agg #[i6 t.Ai.First,i6 t.Ai.Second]])) hq.symm,AO hw97⟩
  have hd98:=FQ h16
  refine BP 5 1 [1] [[(ov (.bool true)),o0,o0,o0],[o0]] [Value.bool (!(win y8.DK 0 2))=Value.bool true] [(Fb z),(33,Ac p)] rfl ⟨by simp[h16],Ae⟩ ?_
  refine Bf 25 #[(Ac p)] (some 34) (.agg #[(Ac p),i6 (-1)]) (fun w99 hw99=>JZ w99 (p:Int)) (fun n100 (hn101:n14≤n100) => ?_)
  refine EY 3 0 [] [[o0,(an 2 2)]] [Qb (z+1),Qb (z+1)] [(Fb z),(4,i6 406)] ⟨w,n100,[(Ak w),(LK z c),(TG z p),(MN z y8)]⟩ rfl ⟨rfl,rfl,Ae⟩ ?_
  refine AA [.at 2,.at 2] [Qb (z+1),Qb (z+1)] (.tuple #[i6 406,.agg #[(Ac p),i6 (-1)]]) ⟨rfl,rfl,Ae⟩ ?_
  intro w102 hw102
  have hq:CX c p=⟨406,⟨(p:Int), -1⟩⟩:=(Ug (by unfold G6;simp only[eP];(try simp[Bc,Ah,Bg,h12,h16]))).trans (by unfold G6;simp only[eP];(try simp[Bc,Ah,Bg,h12,h16]))
  exact⟨congrArg (fun t:Ar=>Ending.returned (.tuple #[i6 t.e,.agg #[i6 t.Ai.First,i6 t.Ai.Second]])) hq.symm,AO hw102⟩
 refine BP 5 1 [1] [[(ov (.bool true)),o0],[o0]] [Value.bool (!(AX c p))=Value.bool true] [(Fb z),(20,Ac p)] rfl ⟨by simp[h12],Ae⟩ ?_
 refine Bf 25 #[(Ac p)] (some 21) (.agg #[(Ac p),i6 (-1)]) (fun w103 hw103=>JZ w103 (p:Int)) (fun n104 (hn105:n10≤n104) => ?_)
 refine EY 3 0 [] [[o0,(an 2 2)]] [Qb (z+1),Qb (z+1)] [(Fb z),(4,i6 405)] ⟨w,n104,[(Ak w),(LK z c),(TG z p),(MN z y8)]⟩ rfl ⟨rfl,rfl,Ae⟩ ?_
 refine AA [.at 2,.at 2] [Qb (z+1),Qb (z+1)] (.tuple #[i6 405,.agg #[(Ac p),i6 (-1)]]) ⟨rfl,rfl,Ae⟩ ?_
 intro w106 hw106
 have hq:CX c p=⟨405,⟨(p:Int), -1⟩⟩:=(Ug (by unfold G6;simp only[eP];(try simp[Bc,Ah,Bg,h12]))).trans (by unfold G6;simp only[eP];(try simp[Bc,Ah,Bg,h12]))
 exact⟨congrArg (fun t:Ar=>Ending.returned (.tuple #[i6 t.e,.agg #[i6 t.Ai.First,i6 t.Ai.Second]])) hq.symm,AO hw106⟩
end Go.Proofs.YtnjhekfgmbpmlaaDoor.Ad
namespace Go.Proofs.YtnjhekfgmbpmlaaDoor.Ly
open Go Go.Proofs.YtnjhekfgmbpmlaaDoor.Eng Go.Proofs.YtnjhekfgmbpmlaaDoor.Mem
set_option linter.unusedSimpArgs false
set_option linter.unusedVariables false
set_option maxRecDepth 100000
def ZbT(t:Nat)(g:A8):Bool:=decide (g.Bj / 16≤(t:Int)∧(t:Int)≤(g.Bj+g.AV - 1) / 16)
def IL(x:Ap)(t:Nat):Bool:=x.Af.xs.any (ZbT t)
theorem any_yes{α:Type}[Inhabited α]{p:α→Bool}{xs:List α}{k:Nat}(hk:k<xs.length)(h:p (gd xs k)=true):xs.any p=true:=by
 rw[List.any_eq_true];rw[F9 hk]at h;exact⟨xs[k],List.getElem_mem hk,h⟩
theorem any_no{α:Type}[Inhabited α]{p:α→Bool}{xs:List α}(h:∀ i,i<xs.length→p (gd xs i)=false):xs.any p=false:=by
 rw[List.any_eq_false]
 intro y hy
 obtain⟨i,hi,rfl⟩:=List.getElem_of_mem hy
 have:=h i hi
 rw[F9 hi]at this
 simp[this]
theorem touch_tab{x:Ap}(hr:∀ i,i<x.Af.xs.length→KO (gd x.Af.xs i)=true)(t:Nat):IL x t=(G9 x x.Af.xs.length).contains t:=by
 rw[Bool.eq_iff_iff]
 unfold IL G9 Px
 simp only[List.any_eq_true,List.contains_iff_mem,List.mem_flatMap,List.mem_range,List.mem_map,ZbT,decide_eq_true_eq]
 constructor
 ·rintro⟨g,hg,h1,h2⟩
  obtain⟨i,hi,rfl⟩:=List.getElem_of_mem hg
  have h3:=hr i hi
  unfold KO at h3
  rw[decide_eq_true_eq]at h3
  rw[F9 hi]at h3
  refine⟨i,hi, ?_⟩
  rw[F9 hi]
  by_cases hp:x.Af.xs[i].Bj≤16*(t:Int)
  ·exact⟨(16*(t:Int) - x.Af.xs[i].Bj).toNat,by omega,by omega⟩
  exact⟨0,by omega,by omega⟩
 rintro⟨i,hi,k,hk,h⟩
 have h3:=hr i hi
 unfold KO at h3
 rw[decide_eq_true_eq]at h3
 refine⟨gd x.Af.xs i,by rw[F9 hi];exact List.getElem_mem hi,by omega,by omega⟩
theorem Zu{c:Aj}{k:Int}{b:Bool}(i:Nat):∀ (n:Nat),i≤n→∃ r,Dw c k b n=Dw c k b i++r
 | 0,h=>⟨[],by rw[Nat.le_zero.1 h];simp⟩
 | n+1,h=>by
  by_cases e:i=n+1
  ·exact⟨[],by rw[e];simp⟩
  obtain⟨r,hr⟩:=Zu (c:=c) (k:=k) (b:=b) i n (by omega)
  exact⟨_,by rw[MW,hr,List.append_assoc]⟩
theorem Xk{p:Nat}{x:Ap}{k:Int}{b:Bool}(j:Nat):∀ (n:Nat),j≤n→∃ r,CZ p x k b n=CZ p x k b j++r
 | 0,h=>⟨[],by rw[Nat.le_zero.1 h];simp⟩
 | n+1,h=>by
  by_cases e:j=n+1
  ·exact⟨[],by rw[e];simp⟩
  obtain⟨r,hr⟩:=Xk (p:=p) (x:=x) (k:=k) (b:=b) j n (by omega)
  cases hs:Ju k b (gd x.Am.xs n)
  ·exact⟨r,by rw[LD hs,hr]⟩
  exact⟨_,by rw[Qc hs,hr,List.append_assoc]⟩
theorem first_end{c:Aj}{k:Int}{b:Bool}{i j:Nat}(hi:i<c.Aa.xs.length)(hj:j<(gd c.Aa.xs i).Am.xs.length)(h1:Dw c k b i=[])(h2:CZ i (gd c.Aa.xs i) k b j=[])(h3:Ju k b (gd (gd c.Aa.xs i).Am.xs j)=true):gd (CQ c k b) 0=⟨(i:Int),(j:Int)⟩:=by
 obtain⟨r1,e1⟩:=Zu (c:=c) (k:=k) (b:=b) (i+1) c.Aa.xs.length (by omega)
 obtain⟨r2,e2⟩:=Xk (p:=i) (x:=gd c.Aa.xs i) (k:=k) (b:=b) (j+1) (gd c.Aa.xs i).Am.xs.length (by omega)
 unfold CQ
 rw[e1,MW,h1,e2,Qc h3,h2]
 simp[gd]
theorem no_end{c:Aj}{k:Int}{b:Bool}(h:CQ c k b=[]):gd (CQ c k b) 0=⟨0,0⟩:=by rw[h];rfl
section
variable (x:Ap)
abbrev UL:=(10,Ac x.Af.xs.length)
end
theorem Zbz(w:World)(x:Ap)(t:Nat)(ht:t<16)(hx:Ap.ok Any w x)(hr:∀ i,i<x.Af.xs.length→KO (gd x.Af.xs i)=true):Calls Tryd.prog 84 #[.agg (Ap.arr x),.int .i64 (t:Int)] w fun e w'=>e = .returned (.bool (IL x t))∧CP (fun _=>False) w w':=by
 obtain⟨z,hz⟩:∃ z,z=w.heap.size:=⟨_,rfl⟩
 refine CE (args:=[.agg (Ap.arr x),Ac t]) 40 ⟨w,z,[(Ak w)]⟩ Tryd.func84 rfl (by kernel_rfl) (by kernel_rfl) (Ep hz) ?_
 have hlR:=hx.Af.1.len
 refine DC [0,1] [(0,.agg (Ap.arr x)),(1,Ac t)] ?_
 refine q_c 10 0 [] [[o0,o0],[o0,(a1 1),o0,o0]] [Qb z] [(1,Ac t),(2,pt z),(UL x),(11,i6 0)] ⟨w,z+1,[(Ak w),(bk z (Ap.arr x) 41)]⟩ rfl ⟨rfl,Ae⟩ ?_
 refine Di (fun m a w'=>∃ (n2:Nat) (i:Nat),m=x.Af.xs.length - i∧z+1≤n2∧(i≤x.Af.xs.length)∧(∀ q,q<i→ZbT t (gd x.Af.xs q)=false)∧St 40 [(1,Ac t),(2,pt z),(UL x),(11,Ac i)] [] ⟨w,n2,[(Ak w),(bk z (Ap.arr x) 41)]⟩ a w') (x.Af.xs.length - 0) ?_ ?_
 ·intro a w' hs;exact⟨(z+1),0,rfl,Nat.le_refl _,Nat.zero_le _,fun q hq=>absurd hq (Nat.not_lt_zero q),hs⟩
 rintro m a w' ⟨n2,i,rfl,hn1,hki,hq0,hs⟩
 refine(?_:G Tryd.prog 40 [(1,Ac t),(2,pt z),(UL x),(11,Ac i)] [] ⟨w,n2,[(Ak w),(bk z (Ap.arr x) 41)]⟩ _ _ _) a w' hs
 clear hs a w'
 refine Ce ?_
 by_cases h3:(i:Int)<(x.Af.xs.length:Int)
 ·refine Az 14 0 [1] [[oT],[o0,o0]] [BT ((i:Int)<(x.Af.xs.length:Int))] [(1,Ac t),(2,pt z),(UL x),(11,Ac i),(5,Ac i)] rfl ⟨bt,Ae⟩ ?_
  obtain⟨b4,o5,ha6,hF8,hc7⟩:=(hx.Af).1.all (show 0<x.Af.xs.length by omega)
  replace ha6:x.Af.a=some ⟨b4,o5,none⟩:=ha6
  have hc9:=hc7 i (show i<x.Af.xs.length by omega)
  have he10:=(hx.Af).2 i (show i<x.Af.xs.length by omega)
  obtain⟨y11,hy11⟩:∃ y_,y_=gd x.Af.xs i:=⟨_,rfl⟩
  rw[←hy11]at he10 hc9
  have hrg:=hr i (by omega);rw[←hy11]at hrg;unfold KO at hrg;rw[decide_eq_true_eq]at hrg
  refine Az 8 0 [] [[o0,(DN 1 b4 o5 x.Af),o0,(oi i),o0,(oa [.via 0 (i6 y11.Bj)]),o0],[o0,o0,(DN 1 b4 o5 x.Af),o0,(oi i),o0,(oa [.via 0 (i6 y11.AV)]),(ov (i6 (y11.Bj+y11.AV))),(ov (i6 ((y11.Bj+y11.AV) - 1))),o0]] [Qb z,Dh b4 o5 x.Af,Ci i,i<x.Af.xs.length,BN,Old w b4 (o5+i*4) (i6 y11.Bj),Qb z,Dh b4 o5 x.Af,Ci i,i<x.Af.xs.length,BN,Old w b4 (o5+i*4+1) (i6 y11.AV),Wr ((y11.Bj:Int)+y11.AV) (y11.Bj+y11.AV),Wr ((y11.Bj+y11.AV:Int) - 1) ((y11.Bj+y11.AV) - 1)] [(1,Ac t),(2,pt z),(UL x),(11,Ac i),(6,i6 y11.Bj),(7,i6 ((y11.Bj+y11.AV) - 1))] rfl ⟨rfl,Df ha6,rfl,(by omega),rfl,A7 (hc9 0 _ rfl),rfl,Df ha6,rfl,(by omega),rfl,A7 (hc9 1 _ rfl),BQ,BQ,Ae⟩ ?_
  by_cases h12:(t:Int)<y11.Bj / 16
  ·refine Az 9 0 [0] [[o0,(ov (i6 (y11.Bj / 16))),o0,oF,o0,o0],[(ov (i6 ((i+1:Nat):Int))),o0]] [Wr (Int.tdiv (y11.Bj) 16) (y11.Bj / 16),BF ((y11.Bj / 16:Int)≤(t:Int)),Wr ((i:Int)+1) (((i+1:Nat):Int))] [(1,Ac t),(2,pt z),(UL x),(11,i6 ((i+1:Nat):Int))] rfl ⟨congrArg (Value.int .i64) (Pn (by omega) (by omega) (by omega)),bf,BQ,Ae⟩ ?_
   refine BD (fun a w' hs=>⟨x.Af.xs.length - (i+1),by omega,n2,(i+1),rfl,by omega,by omega,upto hq0 (by rw[←hy11];exact decide_eq_false (by omega)),hs⟩)
  by_cases h13:(((y11.Bj+y11.AV) - 1) / 16:Int)<(t:Int)
  ·refine Az 9 0 [0] [[o0,(ov (i6 (y11.Bj / 16))),o0,oT,o0,o0,o0,(ov (i6 (((y11.Bj+y11.AV) - 1) / 16))),oF,o0],[(ov (i6 ((i+1:Nat):Int))),o0]] [Wr (Int.tdiv (y11.Bj) 16) (y11.Bj / 16),BT ((y11.Bj / 16:Int)≤(t:Int)),Wr (Int.tdiv ((y11.Bj+y11.AV) - 1) 16) (((y11.Bj+y11.AV) - 1) / 16),BF ((t:Int)≤(((y11.Bj+y11.AV) - 1) / 16)),Wr ((i:Int)+1) (((i+1:Nat):Int))] [(1,Ac t),(2,pt z),(UL x),(11,i6 ((i+1:Nat):Int))] rfl ⟨congrArg (Value.int .i64) (Pn (by omega) (by omega) (by omega)),bt,congrArg (Value.int .i64) (Pn (by omega) (by omega) (by omega)),bf,BQ,Ae⟩ ?_
   refine BD (fun a w' hs=>⟨x.Af.xs.length - (i+1),by omega,n2,(i+1),rfl,by omega,by omega,upto hq0 (by rw[←hy11];exact decide_eq_false (by omega)),hs⟩)
  refine Az 9 0 [1] [[o0,(ov (i6 (y11.Bj / 16))),o0,oT,o0,o0,o0,(ov (i6 (((y11.Bj+y11.AV) - 1) / 16))),oT,o0],[o0]] [Wr (Int.tdiv (y11.Bj) 16) (y11.Bj / 16),BT ((y11.Bj / 16:Int)≤(t:Int)),Wr (Int.tdiv ((y11.Bj+y11.AV) - 1) 16) (((y11.Bj+y11.AV) - 1) / 16),BT ((t:Int)≤(((y11.Bj+y11.AV) - 1) / 16))] [(4,.bool true)] rfl ⟨congrArg (Value.int .i64) (Pn (by omega) (by omega) (by omega)),bt,congrArg (Value.int .i64) (Pn (by omega) (by omega) (by omega)),bt,Ae⟩ ?_
  refine AA [] [] (.bool true) Ae ?_
  intro w14 hw14
  refine⟨congrArg (fun b=>Ending.returned (Value.bool b)) (Eq.symm (?_:IL x t=true)),AO hw14⟩
  exact any_yes (k:=i) (by omega) (by rw[←hy11];exact decide_eq_true ⟨by omega,by omega⟩)
 refine Az 15 0 [0] [[oF],[o0]] [BF ((i:Int)<(x.Af.xs.length:Int))] [(4,.bool false)] rfl ⟨bf,Ae⟩ ?_
 refine AA [] [] (.bool false) Ae ?_
 intro w15 hw15
 refine⟨congrArg (fun b=>Ending.returned (Value.bool b)) (Eq.symm (?_:IL x t=false)),AO hw15⟩
 exact any_no (fun q hq=>hq0 q (by omega))
section
variable (z:Nat)(c:Aj)(y11:Ap)
abbrev X4:=bk z (Aj.arr c) 26
abbrev Py:=(10,Ac c.Aa.xs.length)
abbrev UZ:=(20,Ac y11.Am.xs.length)
end
theorem ZcJ(w:World)(c:Aj)(ch:Int)(hc:Aj.ok Any w c):Calls Tryd.prog 77 #[.agg (Aj.arr c),.int .i64 ch] w fun e w'=>e = .returned (.tuple #[.int .i64 (gd (CQ c ch true) 0).partition,.int .i64 (gd (CQ c ch true) 0).port])∧CP (fun _=>False) w w':=by
 obtain⟨z,hz⟩:∃ z,z=w.heap.size:=⟨_,rfl⟩
 refine CE (args:=[.agg (Aj.arr c),i6 ch]) 52 ⟨w,z,[(Ak w)]⟩ Tryd.func77 rfl (by kernel_rfl) (by kernel_rfl) (Ep hz) ?_
 have hlP:=hc.Aa.1.len
 refine DC [0,1] [(0,.agg (Aj.arr c)),(1,i6 ch)] ?_
 refine q_c 10 0 [] [[o0,o0,o0],[o0,(a1 1),o0,o0]] [Qb z] [(1,i6 ch),(2,pt z),(Py c),(11,i6 0)] ⟨w,z+1,[(Ak w),(X4 z c)]⟩ rfl ⟨rfl,Ae⟩ ?_
 refine Di (fun m a w'=>∃ (n2:Nat) (i:Nat),m=c.Aa.xs.length - i∧z+1≤n2∧(i≤c.Aa.xs.length)∧(Dw c ch true i=[])∧St 52 [(1,i6 ch),(2,pt z),(Py c),(11,Ac i)] [] ⟨w,n2,[(Ak w),(X4 z c)]⟩ a w') (c.Aa.xs.length - 0) ?_ ?_
 ·intro a w' hs;exact⟨(z+1),0,rfl,Nat.le_refl _,Nat.zero_le _,rfl,hs⟩
 rintro m a w' ⟨n2,i,rfl,hn1,hki,heu,hs⟩
 refine(?_:G Tryd.prog 52 [(1,i6 ch),(2,pt z),(Py c),(11,Ac i)] [] ⟨w,n2,[(Ak w),(X4 z c)]⟩ _ _ _) a w' hs
 clear hs a w'
 refine Ce ?_
 by_cases h3:(i:Int)<(c.Aa.xs.length:Int)
 ·refine Az 14 0 [1] [[oT],[o0,o0]] [BT ((i:Int)<(c.Aa.xs.length:Int))] [(1,i6 ch),(2,pt z),(Py c),(11,Ac i),(6,Ac i)] rfl ⟨bt,Ae⟩ ?_
  obtain⟨b4,o5,ha6,hF8,hc7⟩:=(hc.Aa).1.all (show 0<c.Aa.xs.length by omega)
  replace ha6:c.Aa.a=some ⟨b4,o5,none⟩:=ha6
  have hc9:=hc7 i (show i<c.Aa.xs.length by omega)
  have he10:=(hc.Aa).2 i (show i<c.Aa.xs.length by omega)
  obtain⟨y11,hy11⟩:∃ y_,y_=gd c.Aa.xs i:=⟨_,rfl⟩
  rw[←hy11]at he10 hc9
  refine Az 4 0 [] [[o0,(DN 1 b4 o5 c.Aa),o0,(oi i),o0,(oa [.via 0 (.slice y11.Am.a y11.Am.xs.length y11.Am.cap)]),o0,o0]] [Qb z,Dh b4 o5 c.Aa,Ci i,i<c.Aa.xs.length,BN,Old w b4 (o5+i*8+7) (.slice y11.Am.a y11.Am.xs.length y11.Am.cap)] [(1,i6 ch),(2,pt z),(6,Ac i),(Py c),(11,Ac i),(UZ y11),(21,i6 0)] rfl ⟨rfl,Df ha6,rfl,(by omega),rfl,A7 (hc9 7 _ rfl),Ae⟩ ?_
  refine Di (fun m a w'=>∃ (n13:Nat) (j:Nat),m=y11.Am.xs.length - j∧n2≤n13∧(j≤y11.Am.xs.length)∧(CZ i y11 ch true j=[])∧St 52 [(1,i6 ch),(2,pt z),(6,Ac i),(Py c),(11,Ac i),(UZ y11),(21,Ac j)] [] ⟨w,n13,[(Ak w),(X4 z c)]⟩ a w') (y11.Am.xs.length - 0) ?_ ?_
  ·intro a w' hs;exact⟨n2,0,rfl,Nat.le_refl _,Nat.zero_le _,rfl,hs⟩
  rintro m a w' ⟨n13,j,rfl,hn12,hkj,hpe,hs⟩
  refine(?_:G Tryd.prog 52 [(1,i6 ch),(2,pt z),(6,Ac i),(Py c),(11,Ac i),(UZ y11),(21,Ac j)] [] ⟨w,n13,[(Ak w),(X4 z c)]⟩ _ _ _) a w' hs
  clear hs a w'
  have hlp:=he10.Am.1.len
  refine Ce ?_
  by_cases h14:(j:Int)<(y11.Am.xs.length:Int)
  ·refine Az 14 0 [1] [[oT],[o0,o0]] [BT ((j:Int)<(y11.Am.xs.length:Int))] [(1,i6 ch),(2,pt z),(6,Ac i),(Py c),(11,Ac i),(UZ y11),(21,Ac j),(7,Ac j)] rfl ⟨bt,Ae⟩ ?_
   obtain⟨b15,o16,ha17,hF19,hc18⟩:=(he10.Am).1.all (show 0<y11.Am.xs.length by omega)
   replace ha17:y11.Am.a=some ⟨b15,o16,none⟩:=ha17
   have hc20:=hc18 j (show j<y11.Am.xs.length by omega)
   have he21:=(he10.Am).2 j (show j<y11.Am.xs.length by omega)
   obtain⟨y22,hy22⟩:∃ y_,y_=gd y11.Am.xs j:=⟨_,rfl⟩
   rw[←hy22]at he21 hc20
   by_cases h23:(y22.Channel:Int)=ch
   ·refine Az 3 0 [] [[o0,(DN 1 b4 o5 c.Aa),o0,(oi i),o0,⟨.auto [.via 0 (.slice y11.Am.a y11.Am.xs.length y11.Am.cap)],some (.slice (some ⟨b15,o16,none⟩) y11.Am.xs.length y11.Am.cap)⟩,o0,(oi j),o0,(oa [.via 0 (i6 y22.Channel)]),o0,oT,o0,o0,(DN 1 b4 o5 c.Aa),o0,(oi i),o0,⟨.auto [.via 0 (.slice y11.Am.a y11.Am.xs.length y11.Am.cap)],some (.slice (some ⟨b15,o16,none⟩) y11.Am.xs.length y11.Am.cap)⟩,o0,(oi j),o0,(oa [.via 0 (.bool y22.Source)]),o0]] [Qb z,Dh b4 o5 c.Aa,Ci i,i<c.Aa.xs.length,BN,Old w b4 (o5+i*8+7) (.slice y11.Am.a y11.Am.xs.length y11.Am.cap),Dh b15 o16 y11.Am,Ci j,j<y11.Am.xs.length,BN,Old w b15 (o16+j*2) (i6 y22.Channel),ET y22.Channel ch,Qb z,Dh b4 o5 c.Aa,Ci i,i<c.Aa.xs.length,BN,Old w b4 (o5+i*8+7) (.slice y11.Am.a y11.Am.xs.length y11.Am.cap),Dh b15 o16 y11.Am,Ci j,j<y11.Am.xs.length,BN,Old w b15 (o16+j*2+1) (.bool y22.Source)] [(1,i6 ch),(2,pt z),(6,Ac i),(Py c),(11,Ac i),(UZ y11),(21,Ac j),(7,Ac j),(47,.bool y22.Source)] rfl ⟨rfl,Df ha6,rfl,(by omega),rfl,A7 (hc9 7 _ rfl),Df ha17,rfl,(by omega),rfl,A7 (hc20 0 _ rfl),et,rfl,Df ha6,rfl,(by omega),rfl,A7 (hc9 7 _ rfl),Df ha17,rfl,(by omega),rfl,A7 (hc20 1 _ rfl),Ae⟩ ?_
    by_cases h24:y22.Source=true
    ·refine Az 6 0 [3] [[o0,o0,o0,o0]] [Value.bool y22.Source=Value.bool true] [(4,Ac i),(5,Ac j)] rfl ⟨(congrArg Value.bool h24),Ae⟩ ?_
     refine AA [] [] (.tuple #[(Ac i),Ac j]) Ae ?_
     intro w25 hw25
     have hg:=first_end (i:=i) (j:=j) (by omega) (by rw[←hy11];omega) heu (by rw[←hy11];exact hpe) (by rw[←hy11,←hy22];exact XQ (by omega) (by revert h24;cases y22.Source <;> simp))
     refine⟨?_,AO hw25⟩
     rw[hg]
    refine Az 6 0 [2] [[(ov (i6 ((j+1:Nat):Int))),o0]] [Value.bool y22.Source=Value.bool false,Wr ((j:Int)+1) (((j+1:Nat):Int))] [(1,i6 ch),(2,pt z),(6,Ac i),(Py c),(11,Ac i),(UZ y11),(21,i6 ((j+1:Nat):Int))] rfl ⟨(congrArg Value.bool (Bool.eq_false_iff.2 h24)),BQ,Ae⟩ ?_
    refine BD (fun a w' hs=>⟨y11.Am.xs.length - (j+1),by omega,n13,(j+1),rfl,by omega,by omega,by rw[LD (by rw[←hy22];exact Wv (by revert h24;cases y22.Source <;> simp))];exact hpe,hs⟩)
   refine Az 9 0 [0] [[o0,(DN 1 b4 o5 c.Aa),o0,(oi i),o0,⟨.auto [.via 0 (.slice y11.Am.a y11.Am.xs.length y11.Am.cap)],some (.slice (some ⟨b15,o16,none⟩) y11.Am.xs.length y11.Am.cap)⟩,o0,(oi j),o0,(oa [.via 0 (i6 y22.Channel)]),o0,oF,o0,o0],[(ov (i6 ((j+1:Nat):Int))),o0]] [Qb z,Dh b4 o5 c.Aa,Ci i,i<c.Aa.xs.length,BN,Old w b4 (o5+i*8+7) (.slice y11.Am.a y11.Am.xs.length y11.Am.cap),Dh b15 o16 y11.Am,Ci j,j<y11.Am.xs.length,BN,Old w b15 (o16+j*2) (i6 y22.Channel),EF y22.Channel ch,Wr ((j:Int)+1) (((j+1:Nat):Int))] [(1,i6 ch),(2,pt z),(6,Ac i),(Py c),(11,Ac i),(UZ y11),(21,i6 ((j+1:Nat):Int))] rfl ⟨rfl,Df ha6,rfl,(by omega),rfl,A7 (hc9 7 _ rfl),Df ha17,rfl,(by omega),rfl,A7 (hc20 0 _ rfl),ef,BQ,Ae⟩ ?_
   refine BD (fun a w' hs=>⟨y11.Am.xs.length - (j+1),by omega,n13,(j+1),rfl,by omega,by omega,by rw[LD (by rw[←hy22];exact Xv (by omega))];exact hpe,hs⟩)
  refine Az 13 0 [0] [[oF],[(ov (i6 ((i+1:Nat):Int))),o0]] [BF ((j:Int)<(y11.Am.xs.length:Int)),Wr ((i:Int)+1) (((i+1:Nat):Int))] [(1,i6 ch),(2,pt z),(Py c),(11,i6 ((i+1:Nat):Int))] rfl ⟨bf,BQ,Ae⟩ ?_
  refine BD (fun a w' hs=>⟨c.Aa.xs.length - (i+1),by omega,n13,(i+1),rfl,by omega,by omega,by rw[MW,heu,←hy11,show y11.Am.xs.length=j by omega];exact hpe,hs⟩)
 refine Az 15 0 [0] [[oF],[o0,o0]] [BF ((i:Int)<(c.Aa.xs.length:Int))] [(4,i6 0),(5,i6 0)] rfl ⟨bf,Ae⟩ ?_
 refine AA [] [] (.tuple #[i6 0,i6 0]) Ae ?_
 intro w26 hw26
 have e0:i=c.Aa.xs.length:=by omega
 subst e0
 have hg:=no_end heu
 refine⟨?_,AO hw26⟩
 rw[hg]
end Go.Proofs.YtnjhekfgmbpmlaaDoor.Ly
