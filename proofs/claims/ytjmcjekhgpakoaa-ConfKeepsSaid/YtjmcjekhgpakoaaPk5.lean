/- Packed: Fe, Fb, Gd, Ge, Xb, Xc, Xd, Xe. No conditions. -/
import Derived.Test.YtjmcjekhgpakoaaPk4
set_option maxHeartbeats 4000000
namespace Go.Proofs.Ytjmcjekhgpakoaa.Ly
open Go Go.Proofs.Ytjmcjekhgpakoaa.Eng Go.Proofs.Ytjmcjekhgpakoaa.Mem
set_option linter.unusedSimpArgs false
set_option linter.unusedVariables false
set_option maxRecDepth 100000
section
variable (z:Nat)(aC:Option Addr)(csG:List (Sl Af))(cC:Nat)(aW:Option Addr)(wsG:List (Sl Af))(cW:Nat)(ax72:Option Addr)(psG:List Ag)(y42:Ag)(ar:Option Addr)(cr:Nat)(aq:Option Addr)(cq cp73:Nat)(ax62:Option Addr)(rsG:List (Sl Ak))(kp cp63:Nat)(ax66:Option Addr)(qsG:List (Sl Ap))(cp67:Nat)(ax83:Option Addr)(spG:List (Sl Af))(n81 k cp84:Nat)(ax87:Option Addr)(cp88:Nat)(aR:Option Addr)(cR:Nat)(aQ:Option Addr)(cQ:Nat)(ax91:Option Addr)(c:Am)(cp92:Nat)(ax28 aw:Option Addr)(cw:Nat)(y11:Sl Af)(cp29:Nat)(ax23:Option Addr)(kw cp24:Nat)(n33 n68:Nat)(aD:Option Addr)(cD:Nat)(aE:Option Addr)(cE:Nat)(aH:Option Addr)(cH:Nat)(aP:Option Addr)(cP n85:Nat)(n52 n89:Nat)(n64 n17 n25:Nat)(ax54:Option Addr)(cp55:Nat)(w:World)
abbrev XL:=bk (z+3) #[.slice aC csG.length cC,.slice aW wsG.length cW,.slice ax72 ((psG++[(⟨y42.Name,y42.Entry,y42.AP,y42.AA,y42.AQ,y42.AL,(⟨ar,cr - 0,y42.Ad.xs⟩:Sl Ak),(⟨aq,cq - 0,y42.Ai.xs⟩:Sl Ap)⟩:Ag)]).length) cp73,.slice ax62 ((rsG++[(⟨ar,cr,(y42.Ad.xs++BH JA kp)⟩:Sl Ak)]).length) cp63,.slice ax66 ((qsG++[(⟨aq,cq,(y42.Ai.xs++BH JP kp)⟩:Sl Ap)]).length) cp67,.slice none 0 0] 36
abbrev Vx:Ch:= .blk (z+3) (.cells #[.slice ax83 (((csG++spG)++[(⟨some ⟨n81,0,none⟩,1,[FP k]⟩:Sl Af)]).length) cp84,.slice aW wsG.length cW,.slice ax87 (((psG++BH Fa k)++[(⟨⟨#[]⟩,(-70) - (k:Int),0,0,0,0,(⟨none,0,[]⟩:Sl Ak),(⟨none,0,[]⟩:Sl Ap)⟩:Ag)]).length) cp88,.slice aR rsG.length cR,.slice aQ qsG.length cQ,.slice ax91 (((c.Ah.xs++BH GK k)++[(⟨(-70) - (k:Int),0,0⟩:Ar)]).length) cp92] 36 (0,0)) true
abbrev Xw:=bk (z+3) #[.slice ax28 ((csG++[(⟨aw,cw - 0,y11.xs⟩:Sl Af)]).length) cp29,.slice ax23 ((wsG++[(⟨aw,cw,(y11.xs++BH FP kw)⟩:Sl Af)]).length) cp24,.slice none 0 0,.slice none 0 0,.slice none 0 0,.slice none 0 0] 36
abbrev Ya:=bk n33 #[.string y42.Name,i6 y42.Entry,i6 y42.AP,i6 y42.AA,i6 y42.AQ,i6 y42.AL,.slice ar (y42.Ad.xs.length - 0) (cr - 0),.slice aq (y42.Ai.xs.length - 0) (cq - 0)] 47
abbrev Ye:=bk n68 #[.string y42.Name,i6 y42.Entry,i6 y42.AP,i6 y42.AA,i6 y42.AQ,i6 y42.AL,.slice ar (y42.Ad.xs.length - 0) (cr - 0),.slice aq (y42.Ai.xs.length - 0) (cq - 0)] 47
abbrev XB:=bk (z+1) #[i6 c.Frames,i6 c.AX,i6 c.Kernel,i6 c.Room,.slice aD (c.Aj.xs.length - 0) (cD - 0),.slice aE (c.Aa.xs.length - 0) (cE - 0),.slice aH (c.Ah.xs.length - 0) (cH - 0)] 26
abbrev Tq:=bk n81 #[i6 c.Frames,i6 c.AX,i6 c.Kernel,i6 c.Room,.slice aD (c.Aj.xs.length - 0) (cD - 0),.slice aE (c.Aa.xs.length - 0) (cE - 0),.slice aH (c.Ah.xs.length - 0) (cH - 0)] 26
abbrev KH:=bk (z+3) #[.slice aD ((csG++spG).length) cD,.slice aW wsG.length cW,.slice aE ((psG++BH Fa k).length) cE,.slice aR rsG.length cR,.slice aQ qsG.length cQ,.slice aH ((c.Ah.xs++BH GK k).length) cH] 36
abbrev Z5:=bk (z+3) #[.slice aC csG.length cC,.slice ax23 ((wsG++[(⟨aw,cw,(y11.xs++BH FP kw)⟩:Sl Af)]).length) cp24,.slice none 0 0,.slice none 0 0,.slice none 0 0,.slice none 0 0] 36
abbrev JM:=bk (z+3) #[.slice aC csG.length cC,.slice aW wsG.length cW,.slice aP psG.length cP,.slice aR rsG.length cR,.slice aQ qsG.length cQ,.slice none 0 0] 36
abbrev Rh:=bk n85 #[.string (⟨#[]⟩),i6 ((-70) - (k:Int)),i6 0,i6 0,i6 0,i6 0,.slice none 0 0,.slice none 0 0] 47
abbrev IW:=bk (z+3) #[.slice aC csG.length cC,.slice aW wsG.length cW,.slice none 0 0,.slice none 0 0,.slice none 0 0,.slice none 0 0] 36
abbrev Cb:=bk (z+1) #[i6 0,i6 0,i6 0,i6 0,.slice none 0 0,.slice none 0 0,.slice none 0 0] 26
abbrev BX:=bk (z+2) #[.slice none 0 0,.slice none 0 0,.slice none 0 0,.slice none 0 0,.slice none 0 0,.slice none 0 0] 36
abbrev YC:=bk n52 #[i6 ((-70) - (kp:Int)),i6 0,i6 0,i6 0] 53
abbrev Uk:=bk n81 #[i6 ((-70) - (k:Int)),i6 0,i6 0] 51
abbrev TY:=bk n89 #[i6 ((-70) - (k:Int)),i6 0,i6 0] 57
abbrev O4:=bk n52 #[.slice ar ((y42.Ad.xs++BH JA kp).length) cr] 44
abbrev PX:=bk n64 #[.slice aq ((y42.Ai.xs++BH JP kp).length) cq] 45
abbrev PV:=bk n17 #[.slice aw ((y11.xs++BH FP kw).length) cw] 43
abbrev VZ:=bk n25 #[.slice aw (y11.xs.length - 0) (cw - 0)] 43
abbrev PK:=bk (n81+1) #[.slice (some ⟨n81,0,none⟩) 1 1] 43
abbrev IM:=bk n33 (Ag.arr y42) 47
abbrev BV:=bk z (Am.arr c) 26
abbrev Wl:=Au z 47 8 Ag.cells (.slice ax72 ((psG++[(⟨y42.Name,y42.Entry,y42.AP,y42.AA,y42.AQ,y42.AL,(⟨ar,cr - 0,y42.Ad.xs⟩:Sl Ak),(⟨aq,cq - 0,y42.Ai.xs⟩:Sl Ap)⟩:Ag)]).length) cp73) (psG++[(⟨y42.Name,y42.Entry,y42.AP,y42.AA,y42.AQ,y42.AL,(⟨ar,cr - 0,y42.Ad.xs⟩:Sl Ak),(⟨aq,cq - 0,y42.Ai.xs⟩:Sl Ap)⟩:Ag)])
abbrev QJ:=Au z 47 8 Ag.cells (.slice ax87 (((psG++BH Fa k)++[(⟨⟨#[]⟩,(-70) - (k:Int),0,0,0,0,(⟨none,0,[]⟩:Sl Ak),(⟨none,0,[]⟩:Sl Ap)⟩:Ag)]).length) cp88) ((psG++BH Fa k)++[(⟨⟨#[]⟩,(-70) - (k:Int),0,0,0,0,(⟨none,0,[]⟩:Sl Ak),(⟨none,0,[]⟩:Sl Ap)⟩:Ag)])
abbrev Yo:=Au z 53 4 Ak.cells (.slice ax54 (((y42.Ad.xs++BH JA kp)++[(⟨(-70) - (kp:Int),0,0,0⟩:Ak)]).length) cp55) ((y42.Ad.xs++BH JA kp)++[(⟨(-70) - (kp:Int),0,0,0⟩:Ak)])
abbrev PO:=Au z 43 1 (fun x:Sl Af=>[Sl.val x]) (.slice ax83 (((csG++spG)++[(⟨some ⟨n81,0,none⟩,1,[FP k]⟩:Sl Af)]).length) cp84) ((csG++spG)++[(⟨some ⟨n81,0,none⟩,1,[FP k]⟩:Sl Af)])
abbrev OA:=Au z 44 1 (fun x:Sl Ak=>[Sl.val x]) (.slice ax62 ((rsG++[(⟨ar,cr,(y42.Ad.xs++BH JA kp)⟩:Sl Ak)]).length) cp63) (rsG++[(⟨ar,cr,(y42.Ad.xs++BH JA kp)⟩:Sl Ak)])
abbrev Ua:=Au z 57 3 Ar.cells (.slice ax91 (((c.Ah.xs++BH GK k)++[(⟨(-70) - (k:Int),0,0⟩:Ar)]).length) cp92) ((c.Ah.xs++BH GK k)++[(⟨(-70) - (k:Int),0,0⟩:Ar)])
abbrev PU:=Au z 45 1 (fun x:Sl Ap=>[Sl.val x]) (.slice ax66 ((qsG++[(⟨aq,cq,(y42.Ai.xs++BH JP kp)⟩:Sl Ap)]).length) cp67) (qsG++[(⟨aq,cq,(y42.Ai.xs++BH JP kp)⟩:Sl Ap)])
abbrev Rf:=Au z 43 1 (fun x:Sl Af=>[Sl.val x]) (.slice ax23 ((wsG++[(⟨aw,cw,(y11.xs++BH FP kw)⟩:Sl Af)]).length) cp24) (wsG++[(⟨aw,cw,(y11.xs++BH FP kw)⟩:Sl Af)])
abbrev VS:=Au z 43 1 (fun x:Sl Af=>[Sl.val x]) (.slice ax28 ((csG++[(⟨aw,cw - 0,y11.xs⟩:Sl Af)]).length) cp29) (csG++[(⟨aw,cw - 0,y11.xs⟩:Sl Af)])
abbrev IZ:=Au z 53 4 Ak.cells (.slice ar ((y42.Ad.xs++BH JA kp).length) cr) (y42.Ad.xs++BH JA kp)
abbrev I8:=Au z 57 3 Ar.cells (.slice aH ((c.Ah.xs++BH GK k).length) cH) (c.Ah.xs++BH GK k)
abbrev Il:=Au z 55 2 Ap.cells (.slice aq ((y42.Ai.xs++BH JP kp).length) cq) (y42.Ai.xs++BH JP kp)
abbrev Jk:=Au z 43 1 (fun x:Sl Af=>[Sl.val x]) (.slice aD ((csG++spG).length) cD) (csG++spG)
abbrev Ia:=Au z 51 3 Af.cells (.slice aw ((y11.xs++BH FP kw).length) cw) (y11.xs++BH FP kw)
abbrev IL:=Au z 47 8 Ag.cells (.slice aE ((psG++BH Fa k).length) cE) (psG++BH Fa k)
abbrev Ee:=Au z 43 1 (fun x:Sl Af=>[Sl.val x]) (.slice aC csG.length cC) csG
abbrev CP:=Au z 43 1 (fun x:Sl Af=>[Sl.val x]) (.slice aW wsG.length cW) wsG
abbrev Eu:=Au z 44 1 (fun x:Sl Ak=>[Sl.val x]) (.slice aR rsG.length cR) rsG
abbrev Ep:=Au z 45 1 (fun x:Sl Ap=>[Sl.val x]) (.slice aQ qsG.length cQ) qsG
abbrev Gz:=Au z 47 8 Ag.cells (.slice aP psG.length cP) psG
abbrev VF:EM:=(10,.slice ax54 (((y42.Ad.xs++BH JA kp)++[(⟨(-70) - (kp:Int),0,0,0⟩:Ak)]).length) cp55)
abbrev Lr:EM:=(10,.slice ar ((y42.Ad.xs++BH JA kp).length) cr)
abbrev JE:EM:=(11,.slice aq ((y42.Ai.xs++BH JP kp).length) cq)
abbrev EX:=(60,Ae c.Aa.xs.length)
abbrev ER:=(17,Ae c.Aj.xs.length)
abbrev BM:=(2,pt (z+1))
abbrev BL:=(3,pt (z+2))
abbrev BO:=(4,pt (z+3))
abbrev GV:=(9,pt n33)
abbrev VH:=[(A8 w),(BV z c),(XB z c aD cD aE cE aH cH),(bk (z+2) #[.slice aD ((csG++spG).length) cD,.slice aW wsG.length cW,.slice aE ((psG++BH Fa k).length) cE,.slice aR rsG.length cR,.slice aQ qsG.length cQ,.slice aH ((c.Ah.xs++BH GK k).length) cH] 36),(KH z csG aW wsG cW psG rsG qsG spG k aR cR aQ cQ c aD cD aE cE aH cH),(Aq z 51 3 Af.cells wsG),(Jk z csG spG aD cD),(CP z aW wsG cW),(Aq z 53 4 Ak.cells rsG),(Aq z 55 2 Ap.cells qsG),(IL z psG k aE cE),(Eu z rsG aR cR),(Ep z qsG aQ cQ),(I8 z k c aH cH),(Aq z 51 3 Af.cells spG),(Tq n81 c aD cD aE cE aH cH)]
end
theorem roomed_calls(w:World)(c:Am)(hc:Am.ok Any w c)(hLim:Lim c):Calls Try.prog 7 #[.agg (Am.arr c)] w fun e w'=>∃ M:RM,e = .returned (.tuple #[.agg (Am.arr (mkC c M)),.agg (I7.arr (YI c M))])∧NP c M∧(∃ w0,Sat ⟨w0,w'.heap.size,U7 w.heap.size c M⟩ w')∧AV (fun _=>False) w w':=by
 obtain⟨z,hz⟩:∃ z,z=w.heap.size:=⟨_,rfl⟩
 refine Bc (args:=[.agg (Am.arr c)]) 183 ⟨w,z,[(A8 w)]⟩ Try.func7 rfl (by kernel_rfl) (by kernel_rfl) (EW hz) ?_
 have hpl_:=hc.Aa.1.len;have hpc:=hc.Aj.1.len;have hpch:=hc.Ah.1.len;have hll1:=hLim.cl;have hll2:=hLim.pl;have hll3:=hLim.hl
 refine Bj [0] [(0,.agg (Am.arr c))] ?_
 refine q_c 14 0 [] [[o0,o0,o0],[o0],[o0,(a1 1),o0,o0]] [Qb z] [(1,pt z),(BM z),(BL z),(BO z),(ER c),(18,i6 0)] ⟨w,z+4,[(A8 w),(BV z c),(Cb z),(BX z),(bk (z+3) #[.slice none 0 0,.slice none 0 0,.slice none 0 0,.slice none 0 0,.slice none 0 0,.slice none 0 0] 36)]⟩ rfl ⟨rfl,Ac⟩ ?_
 refine JU z 51 3 Af.cells ?_
 refine FW z 43 1 (fun x:Sl Af=>[Sl.val x]) ?_
 refine FW z 43 1 (fun x:Sl Af=>[Sl.val x]) ?_
 refine Bl (fun m a w'=>∃ (n2:Nat) (i:Nat) (csG:List (Sl Af)) (wsG:List (Sl Af)) (aC:Option Addr) (cC:Nat) (aW:Option Addr) (cW:Nat),m=c.Aj.xs.length - i∧z+4≤n2∧(i≤c.Aj.xs.length)∧(VV c i csG wsG)∧St 183 [(1,pt z),(BM z),(BL z),(BO z),(ER c),(18,Ae i)] [] ⟨w,n2,[(A8 w),(BV z c),(Cb z),(BX z),(IW z aC csG cC aW wsG cW),(Aq z 51 3 Af.cells wsG),(Ee z aC csG cC),(CP z aW wsG cW)]⟩ a w') (c.Aj.xs.length - 0) ?_ ?_
 ·intro a w' hs;exact⟨(z+4),0,([]),([]),none,0,none,0,rfl,Nat.le_refl _,Nat.zero_le _,cor_nil,hs⟩
 rintro m a w' ⟨n2,i,csG,wsG,aC,cC,aW,cW,rfl,hn1,hki,hCo,hs⟩
 refine(?_:G Try.prog 183 [(1,pt z),(BM z),(BL z),(BO z),(ER c),(18,Ae i)] [] ⟨w,n2,[(A8 w),(BV z c),(Cb z),(BX z),(IW z aC csG cC aW wsG cW),(Aq z 51 3 Af.cells wsG),(Ee z aC csG cC),(CP z aW wsG cW)]⟩ _ _ _) a w' hs
 clear hs a w'
 have hl1:=hCo.l1;have hl2:=hCo.l2
 refine Bi ?_
 by_cases h3:(i:Int)<(c.Aj.xs.length:Int)
 ·refine Aw 18 0 [1] [[oT],[o0,o0],[o0]] [BT ((i:Int)<(c.Aj.xs.length:Int))] [(1,pt z),(BM z),(BL z),(BO z),(ER c),(18,Ae i),(5,Ae i),(6,.slice none 0 0)] rfl ⟨bt,Ac⟩ ?_
  obtain⟨b4,o5,ha6,hF8,hc7⟩:=(hc.Aj).1.all (show 0<c.Aj.xs.length by omega)
  replace ha6:c.Aj.a=some ⟨b4,o5,none⟩:=ha6
  have hc9:=hc7 i (show i<c.Aj.xs.length by omega)
  have he10:=(hc.Aj).2 i (show i<c.Aj.xs.length by omega)
  obtain⟨y11,hy11⟩:∃ y_,y_=gd c.Aj.xs i:=⟨_,rfl⟩
  rw[←hy11]at he10 hc9
  have hlw:=hLim.ws i (by omega);rw[←hy11]at hlw;have hyl:=he10.1.len
  refine Aw 1 6 [] [[o0,o0,(DF 1 b4 o5 c.Aj),o0,(oi i),(oa [.via 0 (.slice y11.a y11.xs.length y11.cap)])]] [Qb z,Df b4 o5 c.Aj,BK i,i<c.Aj.xs.length,BG,Old w b4 (o5+i) (.slice y11.a y11.xs.length y11.cap)] [(1,pt z),(BM z),(BL z),(BO z),(ER c),(18,Ae i),(5,Ae i),(21,.slice none 0 0),(26,.slice y11.a y11.xs.length y11.cap)] rfl ⟨rfl,CZ ha6,rfl,(by omega),rfl,Bg (hc9 0 _ rfl),Ac⟩ ?_
  refine Q7 z 51 3 Af.cells ?_
  refine Nv z 8 0 ([]) y11.xs y11.a Af.cells 51 3 24 (.slice none 0 0) y11.xs.length y11.cap (A8 w) (some 27) (by(try simp only[List.length_cons,List.length_nil,List.nil_append,List.length_append,D8]);omega) (show z≤n2 by omega) (fun w' hw=>Bf (fun b k v _ hv=>Bg hv w' hw) (fun _ h=>h) (he10).1) (fun ax12 cp13 n14 (hn15:n2≤n14) => ?_)
  refine AC 8 0 [] [[o0],[o0]] [] [(1,pt z),(BM z),(BL z),(BO z),(5,Ae i),(6,.slice ax12 (([]++y11.xs).length) cp13),(ER c),(18,Ae i),(28,i6 0)] rfl Ac ?_
  refine Bl (fun m a w'=>∃ (n17:Nat) (kw:Nat) (aw:Option Addr) (cw:Nat),m=12 - kw∧n14≤n17∧(kw≤12)∧St 183 [(1,pt z),(BM z),(BL z),(BO z),(5,Ae i),(6,.slice aw ((y11.xs++BH FP kw).length) cw),(ER c),(18,Ae i),(28,Ae kw)] [] ⟨w,n17,[(A8 w),(BV z c),(Cb z),(BX z),(IW z aC csG cC aW wsG cW),(Aq z 51 3 Af.cells wsG),(Ee z aC csG cC),(CP z aW wsG cW),(Ia z aw cw y11 kw)]⟩ a w') (12 - 0) ?_ ?_
  ·intro a w' hs;exact⟨n14,0,ax12,cp13,rfl,Nat.le_refl _,Nat.zero_le _,(by(try dsimp only[IW,Cb,BX,BV,Ia,Ee,CP,ER,BM,BL,BO]at hs ⊢);rw[RV,List.append_nil];exact hs)⟩
  rintro m a w' ⟨n17,kw,aw,cw,rfl,hn16,hkkw,hs⟩
  refine(?_:G Try.prog 183 [(1,pt z),(BM z),(BL z),(BO z),(5,Ae i),(6,.slice aw ((y11.xs++BH FP kw).length) cw),(ER c),(18,Ae i),(28,Ae kw)] [] ⟨w,n17,[(A8 w),(BV z c),(Cb z),(BX z),(IW z aC csG cC aW wsG cW),(Aq z 51 3 Af.cells wsG),(Ee z aC csG cC),(CP z aW wsG cW),(Ia z aw cw y11 kw)]⟩ _ _ _) a w' hs
  clear hs a w'
  have hfl:(y11.xs++BH FP kw).length=y11.xs.length+kw:=by rw[List.length_append,D8]
  refine Bi ?_
  by_cases h18:(kw:Int)<12
  ·refine q_c 14 5 [1] [[oT],[o0,o0],[o0,o0,(ov (i6 ((-70) - (kw:Int)))),o0,o0]] [BT ((kw:Int)<12),Wr ((-70:Int) - (kw:Int)) ((-70) - (kw:Int))] [(1,pt z),(BM z),(BL z),(BO z),(5,Ae i),(ER c),(18,Ae i),(28,Ae kw),(31,.slice aw ((y11.xs++BH FP kw).length) cw),(35,.slice (some ⟨n17,0,none⟩) 1 1)] ⟨w,n17+1,[(A8 w),(BV z c),(Cb z),(BX z),(IW z aC csG cC aW wsG cW),(Aq z 51 3 Af.cells wsG),(Ee z aC csG cC),(CP z aW wsG cW),(Ia z aw cw y11 kw),(bk n17 #[i6 ((-70) - (kw:Int)),i6 0,i6 0] 51)]⟩ rfl ⟨bt,Bq,Ac⟩ ?_
   refine E8 z 8 9 (y11.xs++BH FP kw) [(⟨(-70) - (kw:Int),0,0⟩:Af)] Af.cells 51 3 24 (.slice aw ((y11.xs++BH FP kw).length) cw) n17 1 1 #[i6 ((-70) - (kw:Int)),i6 0,i6 0] 51 (0,0) true (some 36) (by(try simp only[List.length_cons,List.length_nil,List.nil_append,List.length_append,D8]);omega) (show z≤n17+1 by omega) (fun ax19 cp20 n21 (hn22:n17+1≤n21) => ?_)
   refine AC 5 0 [] [[o0],[(ov (i6 ((kw+1:Nat):Int))),o0]] [Wr ((kw:Int)+1) (((kw+1:Nat):Int))] [(1,pt z),(BM z),(BL z),(BO z),(5,Ae i),(ER c),(18,Ae i),(28,i6 ((kw+1:Nat):Int)),(6,.slice ax19 (((y11.xs++BH FP kw)++[(⟨(-70) - (kw:Int),0,0⟩:Af)]).length) cp20)] rfl ⟨Bq,Ac⟩ ?_
   refine CG [0,1,2,3,4,5,6,7,8] [(A8 w),(BV z c),(Cb z),(BX z),(IW z aC csG cC aW wsG cW),(Aq z 51 3 Af.cells wsG),(Ee z aC csG cC),(CP z aW wsG cW),(Au z 51 3 Af.cells (.slice ax19 (((y11.xs++BH FP kw)++[(⟨(-70) - (kw:Int),0,0⟩:Af)]).length) cp20) ((y11.xs++BH FP kw)++[(⟨(-70) - (kw:Int),0,0⟩:Af)]))] rfl rfl ?_
   refine Ce [1,2,3,4,5,6,17,18,28] [(1,pt z),(BM z),(BL z),(BO z),(5,Ae i),(6,.slice ax19 (((y11.xs++BH FP kw)++[(⟨(-70) - (kw:Int),0,0⟩:Af)]).length) cp20),(ER c),(18,Ae i),(28,i6 ((kw+1:Nat):Int))] ?_
   refine BB (fun a w' hs=>⟨12 - (kw+1),by omega,n21,(kw+1),ax19,cp20,rfl,by omega,by omega,(by(try dsimp only[IW,Cb,BX,BV,Ia,Ee,CP,ER,BM,BL,BO]at hs ⊢);rw[RU,←List.append_assoc];exact hs)⟩)
  refine q_c 12 4 [0] [[oF],[o0,(a1 4),o0,o0]] [BF ((kw:Int)<12),Qb (z+3)] [(1,pt z),(BM z),(BL z),(BO z),(5,Ae i),(6,.slice aw ((y11.xs++BH FP kw).length) cw),(ER c),(18,Ae i),(39,.slice aW wsG.length cW),(41,.slice (some ⟨n17,0,none⟩) 1 1)] ⟨w,n17+1,[(A8 w),(BV z c),(Cb z),(BX z),(IW z aC csG cC aW wsG cW),(Aq z 51 3 Af.cells wsG),(Ee z aC csG cC),(CP z aW wsG cW),(Ia z aw cw y11 kw),(PV aw cw y11 kw n17)]⟩ rfl ⟨bf,rfl,Ac⟩ ?_
  refine E8 z 7 9 wsG [(⟨aw,cw,(y11.xs++BH FP kw)⟩:Sl Af)] (fun x:Sl Af=>[Sl.val x]) 43 1 24 (.slice aW wsG.length cW) n17 1 1 #[.slice aw ((y11.xs++BH FP kw).length) cw] 43 (0,0) true (some 42) (by(try simp only[List.length_cons,List.length_nil,List.nil_append,List.length_append,D8]);omega) (show z≤n17+1 by omega) (fun ax23 cp24 n25 (hn26:n17+1≤n25) => ?_)
  refine Ey 2 0 [] [[o0,(a1 4)]] [Qb (z+3)] [(1,pt z),(BM z),(BL z),(BO z),(5,Ae i),(6,.slice aw ((y11.xs++BH FP kw).length) cw),(ER c),(18,Ae i)] ⟨w,n25,[(A8 w),(BV z c),(Cb z),(BX z),(Z5 z aC csG cC wsG aw cw y11 ax23 kw cp24),(Aq z 51 3 Af.cells wsG),(Ee z aC csG cC),(Rf z wsG aw cw y11 ax23 kw cp24),(Ia z aw cw y11 kw),(PV aw cw y11 kw n17)]⟩ rfl ⟨rfl,Ac⟩ ?_
  refine Om (base:=z) (e:=51) (sz:=3) (cells:=Af.cells) (a:=aw) (n:=((y11.xs++BH FP kw).length)) (cap:=cw) (xs:=(y11.xs++BH FP kw)) 8 rfl (fun hcap27 => ?_)
  simp only[List.length_append,D8]at hcap27
  refine D5 13 [0,1,2,3,4,5,8,9] [(A8 w),(BV z c),(Cb z),(BX z),(Z5 z aC csG cC wsG aw cw y11 ax23 kw cp24),(Aq z 51 3 Af.cells wsG),(Ia z aw cw y11 kw),(PV aw cw y11 kw n17)] rfl rfl ?_
  refine Bz [(0,o0),(1,(a1 4)),(2,o0),(3,o0),(4,(DF 1 b4 o5 c.Aj)),(5,o0),(6,(oi i)),(7,(oa [.via 0 (.slice y11.a y11.xs.length y11.cap)])),(8,o0),(9,⟨.slc 0 y11.xs.length false,none⟩)] [1,2,3,4,17,18,45,53] [Qb (z+3),Qb z,Df b4 o5 c.Aj,BK i,i<c.Aj.xs.length,BG,Old w b4 (o5+i) (.slice y11.a y11.xs.length y11.cap),(0:Int)=((0:Nat):Int),(y11.xs.length:Int)=(y11.xs.length:Int),0≤y11.xs.length,y11.xs.length≤cw,cw=0∨(0:Nat)=0] (Dh 10 4) [(1,pt z),(BM z),(BL z),(BO z),(ER c),(18,Ae i),(45,.slice aC csG.length cC),(53,.slice aw (y11.xs.length - 0) (cw - 0))] ⟨rfl,rfl,CZ ha6,rfl,(by omega),rfl,Bg (hc9 0 _ rfl),rfl,rfl,(by omega),(by omega),.inr rfl,Ac⟩ ?_
  refine BJ 10 ?_
  refine DT o0 [1,2,3,4,17,18,45,54] [] [(1,pt z),(BM z),(BL z),(BO z),(ER c),(18,Ae i),(45,.slice aC csG.length cC),(54,.slice (some ⟨n25,0,none⟩) 1 1)] ⟨w,n25+1,[(A8 w),(BV z c),(Cb z),(BX z),(Z5 z aC csG cC wsG aw cw y11 ax23 kw cp24),(Aq z 51 3 Af.cells wsG),(Ee z aC csG cC),(Rf z wsG aw cw y11 ax23 kw cp24),(Ia z aw cw y11 kw),(PV aw cw y11 kw n17),(VZ aw cw y11 n25)]⟩ [0,1,2,3,4,5,8,9] Ac (.inr rfl) ?_
  refine BJ 11 ?_
  refine Ud z 6 10 csG [(⟨aw,cw - 0,y11.xs⟩:Sl Af)] (fun x:Sl Af=>[Sl.val x]) 43 1 24 (.slice aC csG.length cC) n25 1 1 #[.slice aw (y11.xs.length - 0) (cw - 0)] 43 (0,0) true (some 55) [0,1,2,3,4,5,8,9] (by(try simp only[List.length_cons,List.length_nil,List.nil_append,List.length_append,D8]);omega) (show z≤n25+1 by omega) (.inr ⟨rfl,rfl⟩) (fun ax28 cp29 n30 (hn31:n25+1≤n30) => ?_)
  refine Dx [1,2,3,4,17,18,55] [(1,pt z),(BM z),(BL z),(BO z),(ER c),(18,Ae i),(55,.slice ax28 ((csG++[(⟨aw,cw - 0,y11.xs⟩:Sl Af)]).length) cp29)] ?_
  refine Bz [(12,o0)] [1,2,3,4,17,18,55,56] [] (Dh 13 1) [(1,pt z),(BM z),(BL z),(BO z),(ER c),(18,Ae i),(55,.slice ax28 ((csG++[(⟨aw,cw - 0,y11.xs⟩:Sl Af)]).length) cp29),(56,pt (z+3))] Ac ?_
  refine BJ 13 ?_
  refine DT (a1 4) [1,2,3,4,17,18] [Qb (z+3)] [(1,pt z),(BM z),(BL z),(BO z),(ER c),(18,Ae i)] ⟨w,n30,[(A8 w),(BV z c),(Cb z),(BX z),(Xw z csG wsG ax28 aw cw y11 cp29 ax23 kw cp24),(Aq z 51 3 Af.cells wsG),(VS z csG ax28 aw cw y11 cp29),(Rf z wsG aw cw y11 ax23 kw cp24),(Ia z aw cw y11 kw),(PV aw cw y11 kw n17),(VZ aw cw y11 n25)]⟩ [] ⟨rfl,Ac⟩ (.inl rfl) ?_
  refine Ih 14 [0,1,2,3,4,5,6,7,8,9,10] [(A8 w),(BV z c),(Cb z),(BX z),(Xw z csG wsG ax28 aw cw y11 cp29 ax23 kw cp24),(Aq z 51 3 Af.cells wsG),(VS z csG ax28 aw cw y11 cp29),(Rf z wsG aw cw y11 ax23 kw cp24),(Ia z aw cw y11 kw),(PV aw cw y11 kw n17),(VZ aw cw y11 n25)] rfl rfl ?_
  refine C9 ?_
  refine Io 4 0 [] [[(ov (i6 ((i+1:Nat):Int))),o0]] [Wr ((i:Int)+1) (((i+1:Nat):Int))] [(1,pt z),(BM z),(BL z),(BO z),(ER c),(18,i6 ((i+1:Nat):Int))] rfl ⟨Bq,Ac⟩ ?_
  refine LK 5 8 [0,1,2,3,4,6,7,9,10] (a:=aw) (cap:=cw) (xs:=(y11.xs++BH FP kw)) [(A8 w),(BV z c),(Cb z),(BX z),(Xw z csG wsG ax28 aw cw y11 cp29 ax23 kw cp24),(VS z csG ax28 aw cw y11 cp29),(Rf z wsG aw cw y11 ax23 kw cp24),(PV aw cw y11 kw n17),(VZ aw cw y11 n25)] ?_
  refine CG [0,1,2,3,4,9,5,6] [(A8 w),(BV z c),(Cb z),(BX z),(Xw z csG wsG ax28 aw cw y11 cp29 ax23 kw cp24),(Aq z 51 3 Af.cells (wsG++[⟨aw,cw,(y11.xs++BH FP kw)⟩])),(VS z csG ax28 aw cw y11 cp29),(Rf z wsG aw cw y11 ax23 kw cp24)] rfl rfl ?_
  refine Ce [1,2,3,4,17,18] [(1,pt z),(BM z),(BL z),(BO z),(ER c),(18,i6 ((i+1:Nat):Int))] ?_
  refine BB (fun a w' hs=>⟨c.Aj.xs.length - (i+1),by omega,n30,(i+1),(csG++[(⟨aw,cw - 0,y11.xs⟩:Sl Af)]),(wsG++[(⟨aw,cw,(y11.xs++BH FP kw)⟩:Sl Af)]),ax28,cp29,ax23,cp24,rfl,by omega,by omega,cor_in hCo hy11 (by rw[show kw=12 by omega];rfl),hs⟩)
 refine Aw 16 0 [0] [[oF],[o0,(a1 1),o0,o0]] [BF ((i:Int)<(c.Aj.xs.length:Int)),Qb z] [(1,pt z),(BM z),(BL z),(BO z),(EX c),(61,i6 0)] rfl ⟨bf,rfl,Ac⟩ ?_
 refine JU z 53 4 Ak.cells ?_
 refine JU z 55 2 Ap.cells ?_
 refine FW z 47 8 Ag.cells ?_
 refine FW z 44 1 (fun x:Sl Ak=>[Sl.val x]) ?_
 refine FW z 45 1 (fun x:Sl Ap=>[Sl.val x]) ?_
 refine Bl (fun m a w'=>∃ (n33:Nat) (p:Nat) (psG:List Ag) (rsG:List (Sl Ak)) (qsG:List (Sl Ap)) (aP:Option Addr) (cP:Nat) (aR:Option Addr) (cR:Nat) (aQ:Option Addr) (cQ:Nat),m=c.Aa.xs.length - p∧n2≤n33∧(p≤c.Aa.xs.length)∧(Wx c p psG rsG qsG)∧St 183 [(1,pt z),(BM z),(BL z),(BO z),(EX c),(61,Ae p)] [] ⟨w,n33,[(A8 w),(BV z c),(Cb z),(BX z),(JM z aC csG cC aW wsG cW psG rsG qsG aR cR aQ cQ aP cP),(Aq z 51 3 Af.cells wsG),(Ee z aC csG cC),(CP z aW wsG cW),(Aq z 53 4 Ak.cells rsG),(Aq z 55 2 Ap.cells qsG),(Gz z psG aP cP),(Eu z rsG aR cR),(Ep z qsG aQ cQ)]⟩ a w') (c.Aa.xs.length - 0) ?_ ?_
 ·intro a w' hs;exact⟨n2,0,([]),([]),([]),none,0,none,0,none,0,rfl,Nat.le_refl _,Nat.zero_le _,prt_nil,hs⟩
 rintro m a w' ⟨n33,p,psG,rsG,qsG,aP,cP,aR,cR,aQ,cQ,rfl,hn32,hkp,hPr,hs⟩
 refine(?_:G Try.prog 183 [(1,pt z),(BM z),(BL z),(BO z),(EX c),(61,Ae p)] [] ⟨w,n33,[(A8 w),(BV z c),(Cb z),(BX z),(JM z aC csG cC aW wsG cW psG rsG qsG aR cR aQ cQ aP cP),(Aq z 51 3 Af.cells wsG),(Ee z aC csG cC),(CP z aW wsG cW),(Aq z 53 4 Ak.cells rsG),(Aq z 55 2 Ap.cells qsG),(Gz z psG aP cP),(Eu z rsG aR cR),(Ep z qsG aQ cQ)]⟩ _ _ _) a w' hs
 clear hs a w'
 have hl4:=hPr.l1;have hl5:=hPr.l2;have hl6:=hPr.l3
 refine Bi ?_
 by_cases h34:(p:Int)<(c.Aa.xs.length:Int)
 ·refine Aw 14 0 [1] [[oT],[o0,o0]] [BT ((p:Int)<(c.Aa.xs.length:Int))] [(1,pt z),(BM z),(BL z),(BO z),(EX c),(61,Ae p),(8,Ae p)] rfl ⟨bt,Ac⟩ ?_
  obtain⟨b35,o36,ha37,hF39,hc38⟩:=(hc.Aa).1.all (show 0<c.Aa.xs.length by omega)
  replace ha37:c.Aa.a=some ⟨b35,o36,none⟩:=ha37
  have hc40:=hc38 p (show p<c.Aa.xs.length by omega)
  have he41:=(hc.Aa).2 p (show p<c.Aa.xs.length by omega)
  obtain⟨y42,hy42⟩:∃ y_,y_=gd c.Aa.xs p:=⟨_,rfl⟩
  rw[←hy42]at he41 hc40
  have hlr:=hLim.rs p (by omega);have hlq:=hLim.qs p (by omega);rw[←hy42]at hlr hlq
  refine q_c 9 3 [] [[o0,(DF 1 b35 o36 c.Aa),o0,(oi p),(ol 0 (Ag.arr y42)),o0,(an 8 13)],[o0],[o0,o0,(a1 13)]] [Qb z,Df b35 o36 c.Aa,BK p,p<c.Aa.xs.length,BG,Fq w b35 (o36+p*8) (Ag.arr y42),Qb n33,Qb n33,Qb n33,Qb n33,Qb n33,Qb n33,Qb n33,Qb n33,Qb n33] [(1,pt z),(BM z),(BL z),(BO z),(EX c),(61,Ae p),(GV n33),(69,.slice none 0 0),(71,.slice y42.Ad.a y42.Ad.xs.length y42.Ad.cap)] ⟨w,n33+1,[(A8 w),(BV z c),(Cb z),(BX z),(JM z aC csG cC aW wsG cW psG rsG qsG aR cR aQ cQ aP cP),(Aq z 51 3 Af.cells wsG),(Ee z aC csG cC),(CP z aW wsG cW),(Aq z 53 4 Ak.cells rsG),(Aq z 55 2 Ap.cells qsG),(Gz z psG aP cP),(Eu z rsG aR cR),(Ep z qsG aQ cQ),(IM y42 n33)]⟩ rfl ⟨rfl,CZ ha37,rfl,(by omega),rfl,D6 hc40,rfl,rfl,rfl,rfl,rfl,rfl,rfl,rfl,rfl,Ac⟩ ?_
  refine Q7 z 53 4 Ak.cells ?_
  refine Nv z 14 0 ([]) y42.Ad.xs y42.Ad.a Ak.cells 53 4 32 (.slice none 0 0) y42.Ad.xs.length y42.Ad.cap (A8 w) (some 72) (by(try simp only[List.length_cons,List.length_nil,List.nil_append,List.length_append,D8]);omega) (show z≤n33+1 by omega) (fun w' hw=>Bf (fun b k v _ hv=>Bg hv w' hw) (fun _ h=>h) (he41.Ad).1) (fun ax43 cp44 n45 (hn46:n33+1≤n45) => ?_)
  refine AC 8 3 [] [[o0],[o0],[o0,o0,(a1 13)]] [Qb n33] [(1,pt z),(BM z),(BL z),(BO z),(EX c),(61,Ae p),(GV n33),(10,.slice ax43 (([]++y42.Ad.xs).length) cp44),(73,.slice none 0 0),(75,.slice y42.Ai.a y42.Ai.xs.length y42.Ai.cap)] rfl ⟨rfl,Ac⟩ ?_
  refine Q7 z 55 2 Ap.cells ?_
  refine Nv z 15 0 ([]) y42.Ai.xs y42.Ai.a Ap.cells 55 2 16 (.slice none 0 0) y42.Ai.xs.length y42.Ai.cap (A8 w) (some 76) (by(try simp only[List.length_cons,List.length_nil,List.nil_append,List.length_append,D8]);omega) (show z≤n45 by omega) (fun w' hw=>Bf (fun b k v _ hv=>Bg hv w' hw) (fun _ h=>h) (he41.Ai).1) (fun ax47 cp48 n49 (hn50:n45≤n49) => ?_)
  refine AC 8 0 [] [[o0],[o0]] [] [(1,pt z),(BM z),(BL z),(BO z),(GV n33),(10,.slice ax43 (([]++y42.Ad.xs).length) cp44),(11,.slice ax47 (([]++y42.Ai.xs).length) cp48),(EX c),(61,Ae p),(77,i6 0)] rfl Ac ?_
  refine Bl (fun m a w'=>∃ (n52:Nat) (kp:Nat) (ar:Option Addr) (cr:Nat) (aq:Option Addr) (cq:Nat),m=12 - kp∧n49≤n52∧(kp≤12)∧St 183 [(1,pt z),(BM z),(BL z),(BO z),(GV n33),(Lr y42 ar cr kp),(JE y42 aq cq kp),(EX c),(61,Ae p),(77,Ae kp)] [] ⟨w,n52,[(A8 w),(BV z c),(Cb z),(BX z),(JM z aC csG cC aW wsG cW psG rsG qsG aR cR aQ cQ aP cP),(Aq z 51 3 Af.cells wsG),(Ee z aC csG cC),(CP z aW wsG cW),(Aq z 53 4 Ak.cells rsG),(Aq z 55 2 Ap.cells qsG),(Gz z psG aP cP),(Eu z rsG aR cR),(Ep z qsG aQ cQ),(IM y42 n33),(IZ z y42 ar cr kp),(Il z y42 aq cq kp)]⟩ a w') (12 - 0) ?_ ?_
  ·intro a w' hs;exact⟨n49,0,ax43,cp44,ax47,cp48,rfl,Nat.le_refl _,Nat.zero_le _,(by(try dsimp only[JM,IW,Cb,BX,IM,BV,IZ,Il,Ia,Ee,CP,Eu,Ep,Gz,Lr,JE,EX,ER,BM,BL,BO,GV]at hs ⊢);rw[RV,RV,List.append_nil,List.append_nil];exact hs)⟩
  rintro m a w' ⟨n52,kp,ar,cr,aq,cq,rfl,hn51,hkkp,hs⟩
  refine(?_:G Try.prog 183 [(1,pt z),(BM z),(BL z),(BO z),(GV n33),(Lr y42 ar cr kp),(JE y42 aq cq kp),(EX c),(61,Ae p),(77,Ae kp)] [] ⟨w,n52,[(A8 w),(BV z c),(Cb z),(BX z),(JM z aC csG cC aW wsG cW psG rsG qsG aR cR aQ cQ aP cP),(Aq z 51 3 Af.cells wsG),(Ee z aC csG cC),(CP z aW wsG cW),(Aq z 53 4 Ak.cells rsG),(Aq z 55 2 Ap.cells qsG),(Gz z psG aP cP),(Eu z rsG aR cR),(Ep z qsG aQ cQ),(IM y42 n33),(IZ z y42 ar cr kp),(Il z y42 aq cq kp)]⟩ _ _ _) a w' hs
  clear hs a w'
  have hfl:(y42.Ad.xs++BH JA kp).length=y42.Ad.xs.length+kp:=by rw[List.length_append,D8]
  have hfq:(y42.Ai.xs++BH JP kp).length=y42.Ai.xs.length+kp:=by rw[List.length_append,D8]
  refine Bi ?_
  by_cases h53:(kp:Int)<12
  ·refine q_c 15 5 [1] [[oT],[o0,o0],[o0,o0,(ov (i6 ((-70) - (kp:Int)))),o0,o0]] [BT ((kp:Int)<12),Wr ((-70:Int) - (kp:Int)) ((-70) - (kp:Int))] [(1,pt z),(BM z),(BL z),(BO z),(GV n33),(JE y42 aq cq kp),(EX c),(61,Ae p),(77,Ae kp),(12,Ae kp),(80,.slice ar ((y42.Ad.xs++BH JA kp).length) cr),(84,.slice (some ⟨n52,0,none⟩) 1 1)] ⟨w,n52+1,[(A8 w),(BV z c),(Cb z),(BX z),(JM z aC csG cC aW wsG cW psG rsG qsG aR cR aQ cQ aP cP),(Aq z 51 3 Af.cells wsG),(Ee z aC csG cC),(CP z aW wsG cW),(Aq z 53 4 Ak.cells rsG),(Aq z 55 2 Ap.cells qsG),(Gz z psG aP cP),(Eu z rsG aR cR),(Ep z qsG aQ cQ),(IM y42 n33),(IZ z y42 ar cr kp),(Il z y42 aq cq kp),(YC kp n52)]⟩ rfl ⟨bt,Bq,Ac⟩ ?_
   refine E8 z 14 16 (y42.Ad.xs++BH JA kp) [(⟨(-70) - (kp:Int),0,0,0⟩:Ak)] Ak.cells 53 4 32 (.slice ar ((y42.Ad.xs++BH JA kp).length) cr) n52 1 1 #[i6 ((-70) - (kp:Int)),i6 0,i6 0,i6 0] 53 (0,0) true (some 85) (by(try simp only[List.length_cons,List.length_nil,List.nil_append,List.length_append,D8]);omega) (show z≤n52+1 by omega) (fun ax54 cp55 n56 (hn57:n52+1≤n56) => ?_)
   refine Ey 3 5 [] [[o0],[o0,o0,(ov (i6 ((-70) - (kp:Int)))),o0,o0]] [Wr ((-70:Int) - (kp:Int)) ((-70) - (kp:Int))] [(1,pt z),(BM z),(BL z),(BO z),(GV n33),(EX c),(61,Ae p),(77,Ae kp),(VF y42 kp ax54 cp55),(86,.slice aq ((y42.Ai.xs++BH JP kp).length) cq),(90,.slice (some ⟨n56,0,none⟩) 1 1)] ⟨w,n56+1,[(A8 w),(BV z c),(Cb z),(BX z),(JM z aC csG cC aW wsG cW psG rsG qsG aR cR aQ cQ aP cP),(Aq z 51 3 Af.cells wsG),(Ee z aC csG cC),(CP z aW wsG cW),(Aq z 53 4 Ak.cells rsG),(Aq z 55 2 Ap.cells qsG),(Gz z psG aP cP),(Eu z rsG aR cR),(Ep z qsG aQ cQ),(IM y42 n33),(Yo z y42 kp ax54 cp55),(Il z y42 aq cq kp),(YC kp n52),(bk n56 #[i6 ((-70) - (kp:Int)),.bool false] 55)]⟩ rfl ⟨Bq,Ac⟩ ?_
   refine E8 z 15 17 (y42.Ai.xs++BH JP kp) [(⟨(-70) - (kp:Int),false⟩:Ap)] Ap.cells 55 2 16 (.slice aq ((y42.Ai.xs++BH JP kp).length) cq) n56 1 1 #[i6 ((-70) - (kp:Int)),.bool false] 55 (0,0) true (some 91) (by(try simp only[List.length_cons,List.length_nil,List.nil_append,List.length_append,D8]);omega) (show z≤n56+1 by omega) (fun ax58 cp59 n60 (hn61:n56+1≤n60) => ?_)
   refine AC 5 0 [] [[o0],[(ov (i6 ((kp+1:Nat):Int))),o0]] [Wr ((kp:Int)+1) (((kp+1:Nat):Int))] [(1,pt z),(BM z),(BL z),(BO z),(GV n33),(EX c),(61,Ae p),(77,i6 ((kp+1:Nat):Int)),(VF y42 kp ax54 cp55),(11,.slice ax58 (((y42.Ai.xs++BH JP kp)++[(⟨(-70) - (kp:Int),false⟩:Ap)]).length) cp59)] rfl ⟨Bq,Ac⟩ ?_
   refine CG [0,1,2,3,4,5,6,7,8,9,10,11,12,13,14,15] [(A8 w),(BV z c),(Cb z),(BX z),(JM z aC csG cC aW wsG cW psG rsG qsG aR cR aQ cQ aP cP),(Aq z 51 3 Af.cells wsG),(Ee z aC csG cC),(CP z aW wsG cW),(Aq z 53 4 Ak.cells rsG),(Aq z 55 2 Ap.cells qsG),(Gz z psG aP cP),(Eu z rsG aR cR),(Ep z qsG aQ cQ),(IM y42 n33),(Yo z y42 kp ax54 cp55),(Au z 55 2 Ap.cells (.slice ax58 (((y42.Ai.xs++BH JP kp)++[(⟨(-70) - (kp:Int),false⟩:Ap)]).length) cp59) ((y42.Ai.xs++BH JP kp)++[(⟨(-70) - (kp:Int),false⟩:Ap)]))] rfl rfl ?_
   refine Ce [1,2,3,4,9,10,11,60,61,77] [(1,pt z),(BM z),(BL z),(BO z),(GV n33),(VF y42 kp ax54 cp55),(11,.slice ax58 (((y42.Ai.xs++BH JP kp)++[(⟨(-70) - (kp:Int),false⟩:Ap)]).length) cp59),(EX c),(61,Ae p),(77,i6 ((kp+1:Nat):Int))] ?_
   refine BB (fun a w' hs=>⟨12 - (kp+1),by omega,n60,(kp+1),ax54,cp55,ax58,cp59,rfl,by omega,by omega,(by(try dsimp only[JM,IW,Cb,BX,YC,IM,BV,Yo,IZ,Il,Ia,Ee,CP,Eu,Ep,Gz,VF,Lr,JE,EX,ER,BM,BL,BO,GV]at hs ⊢);rw[RU,RU,←List.append_assoc,←List.append_assoc];exact hs)⟩)
  refine q_c 12 4 [0] [[oF],[o0,(a1 4),o0,o0]] [BF ((kp:Int)<12),Qb (z+3)] [(1,pt z),(BM z),(BL z),(BO z),(GV n33),(Lr y42 ar cr kp),(JE y42 aq cq kp),(EX c),(61,Ae p),(94,.slice aR rsG.length cR),(96,.slice (some ⟨n52,0,none⟩) 1 1)] ⟨w,n52+1,[(A8 w),(BV z c),(Cb z),(BX z),(JM z aC csG cC aW wsG cW psG rsG qsG aR cR aQ cQ aP cP),(Aq z 51 3 Af.cells wsG),(Ee z aC csG cC),(CP z aW wsG cW),(Aq z 53 4 Ak.cells rsG),(Aq z 55 2 Ap.cells qsG),(Gz z psG aP cP),(Eu z rsG aR cR),(Ep z qsG aQ cQ),(IM y42 n33),(IZ z y42 ar cr kp),(Il z y42 aq cq kp),(O4 y42 ar cr kp n52)]⟩ rfl ⟨bf,rfl,Ac⟩ ?_
  refine E8 z 11 16 rsG [(⟨ar,cr,(y42.Ad.xs++BH JA kp)⟩:Sl Ak)] (fun x:Sl Ak=>[Sl.val x]) 44 1 24 (.slice aR rsG.length cR) n52 1 1 #[.slice ar ((y42.Ad.xs++BH JA kp).length) cr] 44 (0,0) true (some 97) (by(try simp only[List.length_cons,List.length_nil,List.nil_append,List.length_append,D8]);omega) (show z≤n52+1 by omega) (fun ax62 cp63 n64 (hn65:n52+1≤n64) => ?_)
  refine Ey 4 4 [] [[o0,(a1 4)],[o0,(a1 4),o0,o0]] [Qb (z+3),Qb (z+3)] [(1,pt z),(BM z),(BL z),(BO z),(GV n33),(Lr y42 ar cr kp),(JE y42 aq cq kp),(EX c),(61,Ae p),(100,.slice aQ qsG.length cQ),(102,.slice (some ⟨n64,0,none⟩) 1 1)] ⟨w,n64+1,[(A8 w),(BV z c),(Cb z),(BX z),(bk (z+3) #[.slice aC csG.length cC,.slice aW wsG.length cW,.slice aP psG.length cP,.slice ax62 ((rsG++[(⟨ar,cr,(y42.Ad.xs++BH JA kp)⟩:Sl Ak)]).length) cp63,.slice aQ qsG.length cQ,.slice none 0 0] 36),(Aq z 51 3 Af.cells wsG),(Ee z aC csG cC),(CP z aW wsG cW),(Aq z 53 4 Ak.cells rsG),(Aq z 55 2 Ap.cells qsG),(Gz z psG aP cP),(OA z y42 ar cr ax62 rsG kp cp63),(Ep z qsG aQ cQ),(IM y42 n33),(IZ z y42 ar cr kp),(Il z y42 aq cq kp),(O4 y42 ar cr kp n52),(PX y42 aq cq kp n64)]⟩ rfl ⟨rfl,rfl,Ac⟩ ?_
  refine E8 z 12 17 qsG [(⟨aq,cq,(y42.Ai.xs++BH JP kp)⟩:Sl Ap)] (fun x:Sl Ap=>[Sl.val x]) 45 1 24 (.slice aQ qsG.length cQ) n64 1 1 #[.slice aq ((y42.Ai.xs++BH JP kp).length) cq] 45 (0,0) true (some 103) (by(try simp only[List.length_cons,List.length_nil,List.nil_append,List.length_append,D8]);omega) (show z≤n64+1 by omega) (fun ax66 cp67 n68 (hn69:n64+1≤n68) => ?_)
  refine Ey 3 0 [] [[o0,(a1 4)]] [Qb (z+3)] [(1,pt z),(BM z),(BL z),(BO z),(GV n33),(Lr y42 ar cr kp),(JE y42 aq cq kp),(EX c),(61,Ae p)] ⟨w,n68,[(A8 w),(BV z c),(Cb z),(BX z),(bk (z+3) #[.slice aC csG.length cC,.slice aW wsG.length cW,.slice aP psG.length cP,.slice ax62 ((rsG++[(⟨ar,cr,(y42.Ad.xs++BH JA kp)⟩:Sl Ak)]).length) cp63,.slice ax66 ((qsG++[(⟨aq,cq,(y42.Ai.xs++BH JP kp)⟩:Sl Ap)]).length) cp67,.slice none 0 0] 36),(Aq z 51 3 Af.cells wsG),(Ee z aC csG cC),(CP z aW wsG cW),(Aq z 53 4 Ak.cells rsG),(Aq z 55 2 Ap.cells qsG),(Gz z psG aP cP),(OA z y42 ar cr ax62 rsG kp cp63),(PU z y42 aq cq kp ax66 qsG cp67),(IM y42 n33),(IZ z y42 ar cr kp),(Il z y42 aq cq kp),(O4 y42 ar cr kp n52),(PX y42 aq cq kp n64)]⟩ rfl ⟨rfl,Ac⟩ ?_
  refine Om (base:=z) (e:=53) (sz:=4) (cells:=Ak.cells) (a:=ar) (n:=((y42.Ad.xs++BH JA kp).length)) (cap:=cr) (xs:=(y42.Ad.xs++BH JA kp)) 14 rfl (fun hcap70 => ?_)
  simp only[List.length_append,D8]at hcap70
  refine q_c 4 0 [] [[o0,o0,(a1 13),o0,⟨.slc 0 y42.Ad.xs.length false,none⟩,o0,(a1 13)]] [Qb n33,(0:Int)=((0:Nat):Int),(y42.Ad.xs.length:Int)=(y42.Ad.xs.length:Int),0≤y42.Ad.xs.length,y42.Ad.xs.length≤cr,cr=0∨(0:Nat)=0,Qb n33] [(1,pt z),(BM z),(BL z),(BO z),(GV n33),(JE y42 aq cq kp),(EX c),(61,Ae p)] ⟨w,n68,[(A8 w),(BV z c),(Cb z),(BX z),(bk (z+3) #[.slice aC csG.length cC,.slice aW wsG.length cW,.slice aP psG.length cP,.slice ax62 ((rsG++[(⟨ar,cr,(y42.Ad.xs++BH JA kp)⟩:Sl Ak)]).length) cp63,.slice ax66 ((qsG++[(⟨aq,cq,(y42.Ai.xs++BH JP kp)⟩:Sl Ap)]).length) cp67,.slice none 0 0] 36),(Aq z 51 3 Af.cells wsG),(Ee z aC csG cC),(CP z aW wsG cW),(Aq z 53 4 Ak.cells rsG),(Aq z 55 2 Ap.cells qsG),(Gz z psG aP cP),(OA z y42 ar cr ax62 rsG kp cp63),(PU z y42 aq cq kp ax66 qsG cp67),(bk n33 #[.string y42.Name,i6 y42.Entry,i6 y42.AP,i6 y42.AA,i6 y42.AQ,i6 y42.AL,.slice ar (y42.Ad.xs.length - 0) (cr - 0),.slice y42.Ai.a y42.Ai.xs.length y42.Ai.cap] 47),(IZ z y42 ar cr kp),(Il z y42 aq cq kp),(O4 y42 ar cr kp n52),(PX y42 aq cq kp n64)]⟩ rfl ⟨rfl,rfl,rfl,(by omega),(by omega),.inr rfl,rfl,Ac⟩ ?_
  refine Om (base:=z) (e:=55) (sz:=2) (cells:=Ap.cells) (a:=aq) (n:=((y42.Ai.xs++BH JP kp).length)) (cap:=cq) (xs:=(y42.Ai.xs++BH JP kp)) 15 rfl (fun hcap71 => ?_)
  simp only[List.length_append,D8]at hcap71
  refine q_c 4 4 [] [[o0,o0,(a1 13),o0,⟨.slc 0 y42.Ai.xs.length false,none⟩,o0,(a1 13)],[o0,(a1 4),(an 8 13),o0]] [Qb n33,(0:Int)=((0:Nat):Int),(y42.Ai.xs.length:Int)=(y42.Ai.xs.length:Int),0≤y42.Ai.xs.length,y42.Ai.xs.length≤cq,cq=0∨(0:Nat)=0,Qb n33,Qb (z+3),Qb n33,Qb n33,Qb n33,Qb n33,Qb n33,Qb n33,Qb n33,Qb n33] [(1,pt z),(BM z),(BL z),(BO z),(EX c),(61,Ae p),(118,.slice aP psG.length cP),(120,.slice (some ⟨n68,0,none⟩) 1 1)] ⟨w,n68+1,[(A8 w),(BV z c),(Cb z),(BX z),(bk (z+3) #[.slice aC csG.length cC,.slice aW wsG.length cW,.slice aP psG.length cP,.slice ax62 ((rsG++[(⟨ar,cr,(y42.Ad.xs++BH JA kp)⟩:Sl Ak)]).length) cp63,.slice ax66 ((qsG++[(⟨aq,cq,(y42.Ai.xs++BH JP kp)⟩:Sl Ap)]).length) cp67,.slice none 0 0] 36),(Aq z 51 3 Af.cells wsG),(Ee z aC csG cC),(CP z aW wsG cW),(Aq z 53 4 Ak.cells rsG),(Aq z 55 2 Ap.cells qsG),(Gz z psG aP cP),(OA z y42 ar cr ax62 rsG kp cp63),(PU z y42 aq cq kp ax66 qsG cp67),(Ya y42 ar cr aq cq n33),(IZ z y42 ar cr kp),(Il z y42 aq cq kp),(O4 y42 ar cr kp n52),(PX y42 aq cq kp n64),(Ye y42 ar cr aq cq n68)]⟩ rfl ⟨rfl,rfl,rfl,(by omega),(by omega),.inr rfl,rfl,rfl,rfl,rfl,rfl,rfl,rfl,rfl,rfl,rfl,Ac⟩ ?_
  refine E8 z 10 18 psG [(⟨y42.Name,y42.Entry,y42.AP,y42.AA,y42.AQ,y42.AL,(⟨ar,cr - 0,y42.Ad.xs⟩:Sl Ak),(⟨aq,cq - 0,y42.Ai.xs⟩:Sl Ap)⟩:Ag)] Ag.cells 47 8 104 (.slice aP psG.length cP) n68 1 1 #[.string y42.Name,i6 y42.Entry,i6 y42.AP,i6 y42.AA,i6 y42.AQ,i6 y42.AL,.slice ar (y42.Ad.xs.length - 0) (cr - 0),.slice aq (y42.Ai.xs.length - 0) (cq - 0)] 47 (0,0) true (some 121) (by(try simp only[List.length_cons,List.length_nil,List.nil_append,List.length_append,D8]);omega) (show z≤n68+1 by omega) (fun ax72 cp73 n74 (hn75:n68+1≤n74) => ?_)
  refine Ey 5 0 [] [[o0,(a1 4)],[(ov (i6 ((p+1:Nat):Int))),o0]] [Qb (z+3),Wr ((p:Int)+1) (((p+1:Nat):Int))] [(1,pt z),(BM z),(BL z),(BO z),(EX c),(61,i6 ((p+1:Nat):Int))] ⟨w,n74,[(A8 w),(BV z c),(Cb z),(BX z),(XL z aC csG cC aW wsG cW ax72 psG y42 ar cr aq cq cp73 ax62 rsG kp cp63 ax66 qsG cp67),(Aq z 51 3 Af.cells wsG),(Ee z aC csG cC),(CP z aW wsG cW),(Aq z 53 4 Ak.cells rsG),(Aq z 55 2 Ap.cells qsG),(Wl z ax72 psG y42 ar cr aq cq cp73),(OA z y42 ar cr ax62 rsG kp cp63),(PU z y42 aq cq kp ax66 qsG cp67),(Ya y42 ar cr aq cq n33),(IZ z y42 ar cr kp),(Il z y42 aq cq kp),(O4 y42 ar cr kp n52),(PX y42 aq cq kp n64),(Ye y42 ar cr aq cq n68)]⟩ rfl ⟨rfl,Bq,Ac⟩ ?_
  refine LK 8 14 [0,1,2,3,4,5,6,7,9,10,11,12,13,15,16,17,18] (a:=ar) (cap:=cr) (xs:=(y42.Ad.xs++BH JA kp)) [(A8 w),(BV z c),(Cb z),(BX z),(XL z aC csG cC aW wsG cW ax72 psG y42 ar cr aq cq cp73 ax62 rsG kp cp63 ax66 qsG cp67),(Aq z 51 3 Af.cells wsG),(Ee z aC csG cC),(CP z aW wsG cW),(Aq z 55 2 Ap.cells qsG),(Wl z ax72 psG y42 ar cr aq cq cp73),(OA z y42 ar cr ax62 rsG kp cp63),(PU z y42 aq cq kp ax66 qsG cp67),(Ya y42 ar cr aq cq n33),(Il z y42 aq cq kp),(O4 y42 ar cr kp n52),(PX y42 aq cq kp n64),(Ye y42 ar cr aq cq n68)] ?_
  refine LK 8 13 [0,1,2,3,4,5,6,7,9,10,11,12,14,15,16,17] (a:=aq) (cap:=cq) (xs:=(y42.Ai.xs++BH JP kp)) [(A8 w),(BV z c),(Cb z),(BX z),(XL z aC csG cC aW wsG cW ax72 psG y42 ar cr aq cq cp73 ax62 rsG kp cp63 ax66 qsG cp67),(Aq z 51 3 Af.cells wsG),(Ee z aC csG cC),(CP z aW wsG cW),(Wl z ax72 psG y42 ar cr aq cq cp73),(OA z y42 ar cr ax62 rsG kp cp63),(PU z y42 aq cq kp ax66 qsG cp67),(Ya y42 ar cr aq cq n33),(O4 y42 ar cr kp n52),(PX y42 aq cq kp n64),(Ye y42 ar cr aq cq n68),(Aq z 53 4 Ak.cells (rsG++[⟨ar,cr,(y42.Ad.xs++BH JA kp)⟩]))] ?_
  refine CG [0,1,2,3,4,5,6,7,15,16,8,9,10] [(A8 w),(BV z c),(Cb z),(BX z),(XL z aC csG cC aW wsG cW ax72 psG y42 ar cr aq cq cp73 ax62 rsG kp cp63 ax66 qsG cp67),(Aq z 51 3 Af.cells wsG),(Ee z aC csG cC),(CP z aW wsG cW),(Aq z 53 4 Ak.cells (rsG++[⟨ar,cr,(y42.Ad.xs++BH JA kp)⟩])),(Aq z 55 2 Ap.cells (qsG++[⟨aq,cq,(y42.Ai.xs++BH JP kp)⟩])),(Wl z ax72 psG y42 ar cr aq cq cp73),(OA z y42 ar cr ax62 rsG kp cp63),(PU z y42 aq cq kp ax66 qsG cp67)] rfl rfl ?_
  refine Ce [1,2,3,4,60,61] [(1,pt z),(BM z),(BL z),(BO z),(EX c),(61,i6 ((p+1:Nat):Int))] ?_
  refine BB (fun a w' hs=>⟨c.Aa.xs.length - (p+1),by omega,n74,(p+1),(psG++[(⟨y42.Name,y42.Entry,y42.AP,y42.AA,y42.AQ,y42.AL,(⟨ar,cr - 0,y42.Ad.xs⟩:Sl Ak),(⟨aq,cq - 0,y42.Ai.xs⟩:Sl Ap)⟩:Ag)]),(rsG++[(⟨ar,cr,(y42.Ad.xs++BH JA kp)⟩:Sl Ak)]),(qsG++[(⟨aq,cq,(y42.Ai.xs++BH JP kp)⟩:Sl Ap)]),ax72,cp73,ax62,cp63,ax66,cp67,rfl,by omega,by omega,prt_in hPr hy42 (by rw[show kp=12 by omega];rfl) (by rw[show kp=12 by omega];rfl),hs⟩)
 refine Aw 12 4 [0] [[oF],[o0,(a1 4),o0,(a1 1)]] [BF ((p:Int)<(c.Aa.xs.length:Int)),Qb (z+3),Qb z] [(1,pt z),(BM z),(BL z),(BO z),(125,.slice none 0 0),(127,.slice c.Ah.a c.Ah.xs.length c.Ah.cap)] rfl ⟨bf,rfl,rfl,Ac⟩ ?_
 refine Q7 z 57 3 Ar.cells ?_
 refine Nv z 13 0 ([]) c.Ah.xs c.Ah.a Ar.cells 57 3 24 (.slice none 0 0) c.Ah.xs.length c.Ah.cap (A8 w) (some 128) (by(try simp only[List.length_cons,List.length_nil,List.nil_append,List.length_append,D8]);omega) (show z≤n33 by omega) (fun w' hw=>Bf (fun b k v _ hv=>Bg hv w' hw) (fun _ h=>h) (hc.Ah).1) (fun ax76 cp77 n78 (hn79:n33≤n78) => ?_)
 refine Ey 8 0 [] [[o0,(a1 4)],[o0]] [Qb (z+3)] [(1,pt z),(BM z),(BL z),(BO z),(130,i6 0)] ⟨w,n78,[(A8 w),(BV z c),(Cb z),(BX z),(bk (z+3) #[.slice aC csG.length cC,.slice aW wsG.length cW,.slice aP psG.length cP,.slice aR rsG.length cR,.slice aQ qsG.length cQ,.slice ax76 (([]++c.Ah.xs).length) cp77] 36),(Aq z 51 3 Af.cells wsG),(Ee z aC csG cC),(CP z aW wsG cW),(Aq z 53 4 Ak.cells rsG),(Aq z 55 2 Ap.cells qsG),(Gz z psG aP cP),(Eu z rsG aR cR),(Ep z qsG aQ cQ),(Au z 57 3 Ar.cells (.slice ax76 (([]++c.Ah.xs).length) cp77) ([]++c.Ah.xs))]⟩ rfl ⟨rfl,Ac⟩ ?_
 refine JU z 51 3 Af.cells ?_
 refine Bl (fun m a w'=>∃ (n81:Nat) (k:Nat) (spG:List (Sl Af)) (aD:Option Addr) (cD:Nat) (aE:Option Addr) (cE:Nat) (aH:Option Addr) (cH:Nat),m=12 - k∧n78≤n81∧(k≤12)∧(Yn k spG)∧St 183 [(1,pt z),(BM z),(BL z),(BO z),(130,Ae k)] [] ⟨w,n81,[(A8 w),(BV z c),(Cb z),(BX z),(KH z csG aW wsG cW psG rsG qsG spG k aR cR aQ cQ c aD cD aE cE aH cH),(Aq z 51 3 Af.cells wsG),(Jk z csG spG aD cD),(CP z aW wsG cW),(Aq z 53 4 Ak.cells rsG),(Aq z 55 2 Ap.cells qsG),(IL z psG k aE cE),(Eu z rsG aR cR),(Ep z qsG aQ cQ),(I8 z k c aH cH),(Aq z 51 3 Af.cells spG)]⟩ a w') (12 - 0) ?_ ?_
 ·intro a w' hs;exact⟨n78,0,([]),aC,cC,aP,cP,ax76,cp77,rfl,Nat.le_refl _,Nat.zero_le _,sp_nil,(by(try dsimp only[KH,JM,IW,Cb,BX,IM,BV,IZ,I8,Il,Jk,Ia,IL,Ee,CP,Eu,Ep,Gz,Lr,JE,EX,ER,BM,BL,BO,GV]at hs ⊢);rw[RV,RV,List.append_nil,List.append_nil,List.append_nil];exact hs)⟩
 rintro m a w' ⟨n81,k,spG,aD,cD,aE,cE,aH,cH,rfl,hn80,hkk,hSp,hs⟩
 refine(?_:G Try.prog 183 [(1,pt z),(BM z),(BL z),(BO z),(130,Ae k)] [] ⟨w,n81,[(A8 w),(BV z c),(Cb z),(BX z),(KH z csG aW wsG cW psG rsG qsG spG k aR cR aQ cQ c aD cD aE cE aH cH),(Aq z 51 3 Af.cells wsG),(Jk z csG spG aD cD),(CP z aW wsG cW),(Aq z 53 4 Ak.cells rsG),(Aq z 55 2 Ap.cells qsG),(IL z psG k aE cE),(Eu z rsG aR cR),(Ep z qsG aQ cQ),(I8 z k c aH cH),(Aq z 51 3 Af.cells spG)]⟩ _ _ _) a w' hs
 clear hs a w'
 have hls:=hSp.1
 have hfc:(csG++spG).length=csG.length+spG.length:=List.length_append
 have hfp:(psG++BH Fa k).length=psG.length+k:=by rw[List.length_append,D8]
 have hfh:(c.Ah.xs++BH GK k).length=c.Ah.xs.length+k:=by rw[List.length_append,D8]
 refine Bi ?_
 by_cases h82:(k:Int)<12
 ·refine q_c 15 7 [1] [[oT],[o0,o0],[o0,(a1 4),o0,(ov (i6 ((-70) - (k:Int)))),o0,o0,o0]] [BT ((k:Int)<12),Qb (z+3),Wr ((-70:Int) - (k:Int)) ((-70) - (k:Int))] [(1,pt z),(BM z),(BL z),(BO z),(130,Ae k),(13,Ae k),(134,.slice aD ((csG++spG).length) cD),(139,.slice (some ⟨n81+1,0,none⟩) 1 1)] ⟨w,n81+2,[(A8 w),(BV z c),(Cb z),(BX z),(KH z csG aW wsG cW psG rsG qsG spG k aR cR aQ cQ c aD cD aE cE aH cH),(Aq z 51 3 Af.cells wsG),(Jk z csG spG aD cD),(CP z aW wsG cW),(Aq z 53 4 Ak.cells rsG),(Aq z 55 2 Ap.cells qsG),(IL z psG k aE cE),(Eu z rsG aR cR),(Ep z qsG aQ cQ),(I8 z k c aH cH),(Aq z 51 3 Af.cells spG),(Uk n81 k),(PK n81)]⟩ rfl ⟨bt,rfl,Bq,Ac⟩ ?_
  refine E8 z 6 16 (csG++spG) [(⟨some ⟨n81,0,none⟩,1,[FP k]⟩:Sl Af)] (fun x:Sl Af=>[Sl.val x]) 43 1 24 (.slice aD ((csG++spG).length) cD) (n81+1) 1 1 #[.slice (some ⟨n81,0,none⟩) 1 1] 43 (0,0) true (some 140) (by(try simp only[List.length_cons,List.length_nil,List.nil_append,List.length_append,D8]);omega) (show z≤n81+2 by omega) (fun ax83 cp84 n85 (hn86:n81+2≤n85) => ?_)
  refine Ey 4 6 [] [[o0,(a1 4)],[o0,(a1 4),o0,(ov (i6 ((-70) - (k:Int)))),o0,o0]] [Qb (z+3),Qb (z+3),Wr ((-70:Int) - (k:Int)) ((-70) - (k:Int))] [(1,pt z),(BM z),(BL z),(BO z),(130,Ae k),(13,Ae k),(143,.slice aE ((psG++BH Fa k).length) cE),(147,.slice (some ⟨n85,0,none⟩) 1 1)] ⟨w,n85+1,[(A8 w),(BV z c),(Cb z),(BX z),(.blk (z+3) (.cells #[.slice ax83 (((csG++spG)++[(⟨some ⟨n81,0,none⟩,1,[FP k]⟩:Sl Af)]).length) cp84,.slice aW wsG.length cW,.slice aE ((psG++BH Fa k).length) cE,.slice aR rsG.length cR,.slice aQ qsG.length cQ,.slice aH ((c.Ah.xs++BH GK k).length) cH] 36 (0,0)) true),(Aq z 51 3 Af.cells wsG),(PO z csG ax83 spG n81 k cp84),(CP z aW wsG cW),(Aq z 53 4 Ak.cells rsG),(Aq z 55 2 Ap.cells qsG),(IL z psG k aE cE),(Eu z rsG aR cR),(Ep z qsG aQ cQ),(I8 z k c aH cH),(Aq z 51 3 Af.cells spG),(Uk n81 k),(PK n81),(Rh k n85)]⟩ rfl ⟨rfl,rfl,Bq,Ac⟩ ?_
  refine E8 z 10 17 (psG++BH Fa k) [(⟨⟨#[]⟩,(-70) - (k:Int),0,0,0,0,(⟨none,0,[]⟩:Sl Ak),(⟨none,0,[]⟩:Sl Ap)⟩:Ag)] Ag.cells 47 8 104 (.slice aE ((psG++BH Fa k).length) cE) n85 1 1 #[.string (⟨#[]⟩),i6 ((-70) - (k:Int)),i6 0,i6 0,i6 0,i6 0,.slice none 0 0,.slice none 0 0] 47 (0,0) true (some 148) (by(try simp only[List.length_cons,List.length_nil,List.nil_append,List.length_append,D8]);omega) (show z≤n85+1 by omega) (fun ax87 cp88 n89 (hn90:n85+1≤n89) => ?_)
  refine Ey 3 6 [] [[o0,(a1 4)],[o0,(a1 4),o0,(ov (i6 ((-70) - (k:Int)))),o0,o0]] [Qb (z+3),Qb (z+3),Wr ((-70:Int) - (k:Int)) ((-70) - (k:Int))] [(1,pt z),(BM z),(BL z),(BO z),(130,Ae k),(151,.slice aH ((c.Ah.xs++BH GK k).length) cH),(155,.slice (some ⟨n89,0,none⟩) 1 1)] ⟨w,n89+1,[(A8 w),(BV z c),(Cb z),(BX z),(.blk (z+3) (.cells #[.slice ax83 (((csG++spG)++[(⟨some ⟨n81,0,none⟩,1,[FP k]⟩:Sl Af)]).length) cp84,.slice aW wsG.length cW,.slice ax87 (((psG++BH Fa k)++[(⟨⟨#[]⟩,(-70) - (k:Int),0,0,0,0,(⟨none,0,[]⟩:Sl Ak),(⟨none,0,[]⟩:Sl Ap)⟩:Ag)]).length) cp88,.slice aR rsG.length cR,.slice aQ qsG.length cQ,.slice aH ((c.Ah.xs++BH GK k).length) cH] 36 (0,0)) true),(Aq z 51 3 Af.cells wsG),(PO z csG ax83 spG n81 k cp84),(CP z aW wsG cW),(Aq z 53 4 Ak.cells rsG),(Aq z 55 2 Ap.cells qsG),(QJ z psG k ax87 cp88),(Eu z rsG aR cR),(Ep z qsG aQ cQ),(I8 z k c aH cH),(Aq z 51 3 Af.cells spG),(Uk n81 k),(PK n81),(Rh k n85),(TY k n89)]⟩ rfl ⟨rfl,rfl,Bq,Ac⟩ ?_
  refine E8 z 13 18 (c.Ah.xs++BH GK k) [(⟨(-70) - (k:Int),0,0⟩:Ar)] Ar.cells 57 3 24 (.slice aH ((c.Ah.xs++BH GK k).length) cH) n89 1 1 #[i6 ((-70) - (k:Int)),i6 0,i6 0] 57 (0,0) true (some 156) (by(try simp only[List.length_cons,List.length_nil,List.nil_append,List.length_append,D8]);omega) (show z≤n89+1 by omega) (fun ax91 cp92 n93 (hn94:n89+1≤n93) => ?_)
  refine Ey 5 0 [] [[o0,(a1 4)],[(ov (i6 ((k+1:Nat):Int))),o0]] [Qb (z+3),Wr ((k:Int)+1) (((k+1:Nat):Int))] [(1,pt z),(BM z),(BL z),(BO z),(130,i6 ((k+1:Nat):Int))] ⟨w,n93,[(A8 w),(BV z c),(Cb z),(BX z),(Vx z csG aW wsG cW psG rsG qsG ax83 spG n81 k cp84 ax87 cp88 aR cR aQ cQ ax91 c cp92),(Aq z 51 3 Af.cells wsG),(PO z csG ax83 spG n81 k cp84),(CP z aW wsG cW),(Aq z 53 4 Ak.cells rsG),(Aq z 55 2 Ap.cells qsG),(QJ z psG k ax87 cp88),(Eu z rsG aR cR),(Ep z qsG aQ cQ),(Ua z k ax91 c cp92),(Aq z 51 3 Af.cells spG),(Uk n81 k),(PK n81),(Rh k n85),(TY k n89)]⟩ rfl ⟨rfl,Bq,Ac⟩ ?_
  refine e_blkrow 15 n81 z 51 3 Af.cells [FP k] #[i6 ((-70) - (k:Int)),i6 0,i6 0] (by omega) (?_:E _ _ _ _ ⟨w,n93,[(A8 w),(BV z c),(Cb z),(BX z),(Vx z csG aW wsG cW psG rsG qsG ax83 spG n81 k cp84 ax87 cp88 aR cR aQ cQ ax91 c cp92),(Aq z 51 3 Af.cells wsG),(PO z csG ax83 spG n81 k cp84),(CP z aW wsG cW),(Aq z 53 4 Ak.cells rsG),(Aq z 55 2 Ap.cells qsG),(QJ z psG k ax87 cp88),(Eu z rsG aR cR),(Ep z qsG aQ cQ),(Ua z k ax91 c cp92),(Aq z 51 3 Af.cells spG),(Au z 51 3 Af.cells (.slice (some ⟨n81,0,none⟩) 1 1) ([FP k])),(PK n81),(Rh k n85),(TY k n89)]⟩ _ _ _)
  refine LK 14 15 [0,1,2,3,4,5,6,7,8,9,10,11,12,13,16,17,18] (a:=(some ⟨n81,0,none⟩)) (cap:=1) (xs:=([FP k])) [(A8 w),(BV z c),(Cb z),(BX z),(Vx z csG aW wsG cW psG rsG qsG ax83 spG n81 k cp84 ax87 cp88 aR cR aQ cQ ax91 c cp92),(Aq z 51 3 Af.cells wsG),(PO z csG ax83 spG n81 k cp84),(CP z aW wsG cW),(Aq z 53 4 Ak.cells rsG),(Aq z 55 2 Ap.cells qsG),(QJ z psG k ax87 cp88),(Eu z rsG aR cR),(Ep z qsG aQ cQ),(Ua z k ax91 c cp92),(PK n81),(Rh k n85),(TY k n89)] ?_
  refine CG [0,1,2,3,4,5,6,7,8,9,10,11,12,13,17] [(A8 w),(BV z c),(Cb z),(BX z),(Vx z csG aW wsG cW psG rsG qsG ax83 spG n81 k cp84 ax87 cp88 aR cR aQ cQ ax91 c cp92),(Aq z 51 3 Af.cells wsG),(PO z csG ax83 spG n81 k cp84),(CP z aW wsG cW),(Aq z 53 4 Ak.cells rsG),(Aq z 55 2 Ap.cells qsG),(QJ z psG k ax87 cp88),(Eu z rsG aR cR),(Ep z qsG aQ cQ),(Ua z k ax91 c cp92),(Aq z 51 3 Af.cells (spG++[⟨(some ⟨n81,0,none⟩),1,[FP k]⟩]))] rfl rfl ?_
  refine Ce [1,2,3,4,130] [(1,pt z),(BM z),(BL z),(BO z),(130,i6 ((k+1:Nat):Int))] ?_
  refine BB (fun a w' hs=>⟨12 - (k+1),by omega,n93,(k+1),(spG++[⟨(some ⟨n81,0,none⟩),1,[FP k]⟩]),ax83,cp84,ax87,cp88,ax91,cp92,rfl,by omega,by omega,sp_in hSp,(by(try dsimp only[Vx,KH,JM,Rh,IW,Cb,BX,Uk,TY,PK,IM,BV,QJ,PO,Ua,IZ,I8,Il,Jk,Ia,IL,Ee,CP,Eu,Ep,Gz,Lr,JE,EX,ER,BM,BL,BO,GV]at hs ⊢);rw[RU,RU,←List.append_assoc,←List.append_assoc,←List.append_assoc];exact hs)⟩)
 refine q_c 15 0 [0] [[oF],[(an 7 1),o0,(an 7 15)]] [BF ((k:Int)<12),Qb z,Qb z,Qb z,Qb z,Qb z,Qb z,Qb z,Qb n81,Qb n81,Qb n81,Qb n81,Qb n81,Qb n81,Qb n81] [(1,pt z),(BM z),(BL z),(BO z),(14,pt n81)] ⟨w,n81+1,[(A8 w),(BV z c),(Cb z),(BX z),(KH z csG aW wsG cW psG rsG qsG spG k aR cR aQ cQ c aD cD aE cE aH cH),(Aq z 51 3 Af.cells wsG),(Jk z csG spG aD cD),(CP z aW wsG cW),(Aq z 53 4 Ak.cells rsG),(Aq z 55 2 Ap.cells qsG),(IL z psG k aE cE),(Eu z rsG aR cR),(Ep z qsG aQ cQ),(I8 z k c aH cH),(Aq z 51 3 Af.cells spG),(bk n81 (Am.arr c) 26)]⟩ rfl ⟨bf,rfl,rfl,rfl,rfl,rfl,rfl,rfl,rfl,rfl,rfl,rfl,rfl,rfl,rfl,Ac⟩ ?_
 refine Om (base:=z) (e:=43) (sz:=1) (cells:=(fun x:Sl Af=>[Sl.val x])) (a:=aD) (n:=((csG++spG).length)) (cap:=cD) (xs:=(csG++spG)) 6 rfl (fun hcap95 => ?_)
 simp only[List.length_append,D8]at hcap95
 refine q_c 4 0 [] [[o0,(a1 4),o0,(a1 1),o0,⟨.slc 0 c.Aj.xs.length false,none⟩,o0,(a1 15)]] [Qb (z+3),Qb z,(0:Int)=((0:Nat):Int),(c.Aj.xs.length:Int)=(c.Aj.xs.length:Int),0≤c.Aj.xs.length,c.Aj.xs.length≤cD,cD=0∨(0:Nat)=0,Qb n81] [(1,pt z),(BM z),(BL z),(BO z),(14,pt n81)] ⟨w,n81+1,[(A8 w),(BV z c),(Cb z),(BX z),(KH z csG aW wsG cW psG rsG qsG spG k aR cR aQ cQ c aD cD aE cE aH cH),(Aq z 51 3 Af.cells wsG),(Jk z csG spG aD cD),(CP z aW wsG cW),(Aq z 53 4 Ak.cells rsG),(Aq z 55 2 Ap.cells qsG),(IL z psG k aE cE),(Eu z rsG aR cR),(Ep z qsG aQ cQ),(I8 z k c aH cH),(Aq z 51 3 Af.cells spG),(bk n81 #[i6 c.Frames,i6 c.AX,i6 c.Kernel,i6 c.Room,.slice aD (c.Aj.xs.length - 0) (cD - 0),.slice c.Aa.a c.Aa.xs.length c.Aa.cap,.slice c.Ah.a c.Ah.xs.length c.Ah.cap] 26)]⟩ rfl ⟨rfl,rfl,rfl,rfl,(by omega),(by omega),.inr rfl,rfl,Ac⟩ ?_
 refine Om (base:=z) (e:=47) (sz:=8) (cells:=Ag.cells) (a:=aE) (n:=((psG++BH Fa k).length)) (cap:=cE) (xs:=(psG++BH Fa k)) 10 rfl (fun hcap96 => ?_)
 simp only[List.length_append,D8]at hcap96
 refine q_c 4 0 [] [[o0,(a1 4),o0,(a1 1),o0,⟨.slc 0 c.Aa.xs.length false,none⟩,o0,(a1 15)]] [Qb (z+3),Qb z,(0:Int)=((0:Nat):Int),(c.Aa.xs.length:Int)=(c.Aa.xs.length:Int),0≤c.Aa.xs.length,c.Aa.xs.length≤cE,cE=0∨(0:Nat)=0,Qb n81] [(1,pt z),(BM z),(BL z),(BO z),(14,pt n81)] ⟨w,n81+1,[(A8 w),(BV z c),(Cb z),(BX z),(KH z csG aW wsG cW psG rsG qsG spG k aR cR aQ cQ c aD cD aE cE aH cH),(Aq z 51 3 Af.cells wsG),(Jk z csG spG aD cD),(CP z aW wsG cW),(Aq z 53 4 Ak.cells rsG),(Aq z 55 2 Ap.cells qsG),(IL z psG k aE cE),(Eu z rsG aR cR),(Ep z qsG aQ cQ),(I8 z k c aH cH),(Aq z 51 3 Af.cells spG),(bk n81 #[i6 c.Frames,i6 c.AX,i6 c.Kernel,i6 c.Room,.slice aD (c.Aj.xs.length - 0) (cD - 0),.slice aE (c.Aa.xs.length - 0) (cE - 0),.slice c.Ah.a c.Ah.xs.length c.Ah.cap] 26)]⟩ rfl ⟨rfl,rfl,rfl,rfl,(by omega),(by omega),.inr rfl,rfl,Ac⟩ ?_
 refine Om (base:=z) (e:=57) (sz:=3) (cells:=Ar.cells) (a:=aH) (n:=((c.Ah.xs++BH GK k).length)) (cap:=cH) (xs:=(c.Ah.xs++BH GK k)) 13 rfl (fun hcap97 => ?_)
 simp only[List.length_append,D8]at hcap97
 refine q_c 4 0 [] [[o0,(a1 4),o0,(a1 1),o0,⟨.slc 0 c.Ah.xs.length false,none⟩,o0,(a1 15)]] [Qb (z+3),Qb z,(0:Int)=((0:Nat):Int),(c.Ah.xs.length:Int)=(c.Ah.xs.length:Int),0≤c.Ah.xs.length,c.Ah.xs.length≤cH,cH=0∨(0:Nat)=0,Qb n81] [(BM z),(BL z),(BO z),(14,pt n81)] ⟨w,n81+1,[(A8 w),(BV z c),(Cb z),(BX z),(KH z csG aW wsG cW psG rsG qsG spG k aR cR aQ cQ c aD cD aE cE aH cH),(Aq z 51 3 Af.cells wsG),(Jk z csG spG aD cD),(CP z aW wsG cW),(Aq z 53 4 Ak.cells rsG),(Aq z 55 2 Ap.cells qsG),(IL z psG k aE cE),(Eu z rsG aR cR),(Ep z qsG aQ cQ),(I8 z k c aH cH),(Aq z 51 3 Af.cells spG),(Tq n81 c aD cD aE cE aH cH)]⟩ rfl ⟨rfl,rfl,rfl,rfl,(by omega),(by omega),.inr rfl,rfl,Ac⟩ ?_
 refine D5 3 [0,1,3,4,5,6,7,8,9,10,11,12,13,14,15] [(A8 w),(BV z c),(BX z),(KH z csG aW wsG cW psG rsG qsG spG k aR cR aQ cQ c aD cD aE cE aH cH),(Aq z 51 3 Af.cells wsG),(Jk z csG spG aD cD),(CP z aW wsG cW),(Aq z 53 4 Ak.cells rsG),(Aq z 55 2 Ap.cells qsG),(IL z psG k aE cE),(Eu z rsG aR cR),(Ep z qsG aQ cQ),(I8 z k c aH cH),(Aq z 51 3 Af.cells spG),(Tq n81 c aD cD aE cE aH cH)] rfl rfl ?_
 refine Bz [(0,(an 7 14)),(1,(an 6 3))] [2,3,181,182] [Qb n81,Qb n81,Qb n81,Qb n81,Qb n81,Qb n81,Qb n81,Qb (z+3),Qb (z+3),Qb (z+3),Qb (z+3),Qb (z+3),Qb (z+3)] [true,true,false,false] [(BM z),(BL z),(181,.agg #[i6 c.Frames,i6 c.AX,i6 c.Kernel,i6 c.Room,.slice aD (c.Aj.xs.length - 0) (cD - 0),.slice aE (c.Aa.xs.length - 0) (cE - 0),.slice aH (c.Ah.xs.length - 0) (cH - 0)]),(182,.agg #[.slice aD ((csG++spG).length) cD,.slice aW wsG.length cW,.slice aE ((psG++BH Fa k).length) cE,.slice aR rsG.length cR,.slice aQ qsG.length cQ,.slice aH ((c.Ah.xs++BH GK k).length) cH])] ⟨rfl,rfl,rfl,rfl,rfl,rfl,rfl,rfl,rfl,rfl,rfl,rfl,rfl,Ac⟩ ?_
 refine BJ 2 ?_
 refine DT (an 7 2) [2,3,182] [Qb (z+1),Qb (z+1),Qb (z+1),Qb (z+1),Qb (z+1),Qb (z+1),Qb (z+1)] [(BM z),(BL z),(182,.agg #[.slice aD ((csG++spG).length) cD,.slice aW wsG.length cW,.slice aE ((psG++BH Fa k).length) cE,.slice aR rsG.length cR,.slice aQ qsG.length cQ,.slice aH ((c.Ah.xs++BH GK k).length) cH])] ⟨w,n81+1,[(A8 w),(BV z c),(XB z c aD cD aE cE aH cH),(BX z),(KH z csG aW wsG cW psG rsG qsG spG k aR cR aQ cQ c aD cD aE cE aH cH),(Aq z 51 3 Af.cells wsG),(Jk z csG spG aD cD),(CP z aW wsG cW),(Aq z 53 4 Ak.cells rsG),(Aq z 55 2 Ap.cells qsG),(IL z psG k aE cE),(Eu z rsG aR cR),(Ep z qsG aQ cQ),(I8 z k c aH cH),(Aq z 51 3 Af.cells spG),(Tq n81 c aD cD aE cE aH cH)]⟩ [0,1,3,4,5,6,7,8,9,10,11,12,13,14,15] ⟨rfl,rfl,rfl,rfl,rfl,rfl,rfl,Ac⟩ (.inr rfl) ?_
 refine BJ 3 ?_
 refine DT (an 6 3) [2,3] [Qb (z+2),Qb (z+2),Qb (z+2),Qb (z+2),Qb (z+2),Qb (z+2)] [(BM z),(BL z)] ⟨w,n81+1,(VH z csG aW wsG cW psG rsG qsG spG n81 k aR cR aQ cQ c aD cD aE cE aH cH w)⟩ [] ⟨rfl,rfl,rfl,rfl,rfl,rfl,Ac⟩ (.inl rfl) ?_
 refine Ih 4 [0,1,2,3,4,5,6,7,8,9,10,11,12,13,14,15] (VH z csG aW wsG cW psG rsG qsG spG n81 k aR cR aQ cQ c aD cD aE cE aH cH w) rfl rfl ?_
 refine C9 ?_
 refine Ce [2,3] [(BM z),(BL z)] ?_
 refine Hu <| QC <| AU [.at 2,.at 2,.at 2,.at 2,.at 2,.at 2,.at 2,.at 3,.at 3,.at 3,.at 3,.at 3,.at 3] [Qb (z+1),Qb (z+1),Qb (z+1),Qb (z+1),Qb (z+1),Qb (z+1),Qb (z+1),Qb (z+2),Qb (z+2),Qb (z+2),Qb (z+2),Qb (z+2),Qb (z+2)] (.tuple #[.agg #[i6 c.Frames,i6 c.AX,i6 c.Kernel,i6 c.Room,.slice aD (c.Aj.xs.length - 0) (cD - 0),.slice aE (c.Aa.xs.length - 0) (cE - 0),.slice aH (c.Ah.xs.length - 0) (cH - 0)],.agg #[.slice aD ((csG++spG).length) cD,.slice aW wsG.length cW,.slice aE ((psG++BH Fa k).length) cE,.slice aR rsG.length cR,.slice aQ qsG.length cQ,.slice aH ((c.Ah.xs++BH GK k).length) cH]]) ⟨rfl,rfl,rfl,rfl,rfl,rfl,rfl,rfl,rfl,rfl,rfl,rfl,rfl,Ac⟩ ?_
 intro w98 hw98
 have ek:k=12:=by omega
 have ei:i=c.Aj.xs.length:=by omega
 have ep:p=c.Aa.xs.length:=by omega
 subst ek
 have hO:∃ w0,Sat ⟨w0,w98.heap.size,U7 z c (⟨aD,cD,csG,spG,aW,cW,wsG,aE,cE,psG,aR,cR,rsG,aQ,cQ,qsG,aH,cH⟩:RM)⟩ w98:=⟨w,by
  have h4:=hw98.pick [13,6,7,5,14,10,11,8,12,9] rfl rfl
  rw[hw98.size]
  (try dsimp only[XB,Tq,KH,JM,IW,Cb,BX,IM,BV,IZ,I8,Il,Jk,Ia,IL,Ee,CP,Eu,Ep,Gz,Lr,JE,EX,ER,BM,BL,BO,GV,VH]at h4)
  exact h4⟩
 exact⟨(⟨aD,cD,csG,spG,aW,cW,wsG,aE,cE,psG,aR,cR,rsG,aQ,cQ,qsG,aH,cH⟩:RM),by(try dsimp only[XB,Tq,KH,JM,IW,Cb,BX,IM,BV,IZ,I8,Il,Jk,Ia,IL,Ee,CP,Eu,Ep,Gz,Lr,JE,EX,ER,BM,BL,BO,GV,VH]);simp only[mkC,YI,Am.arr,I7.arr,Nat.sub_zero,hl1,hl2,hl4,hl5,hl6,wid,List.length_append,D8,ei,ep,hls],⟨ei ▸ hCo,hSp,ep ▸ hPr⟩,hz ▸ hO,A7 hw98⟩
section
variable (z:Nat)(c:Am)
abbrev RG:=bk z (Am.arr c) 26
abbrev RH:=(51,Ae c.Aa.xs.length)
abbrev VA:=(28,Ae c.Aj.xs.length)
end
theorem vast_calls(w:World)(c:Am)(hc:Am.ok Any w c):Calls Try.prog 4 #[.agg (Am.arr c)] w fun e w'=>∃ b:Bool,e = .returned (.bool b)∧(b=false→Lim c∧sm (fun q=>(gd c.Aj.xs q).xs.length) c.Aj.xs.length+sm (fun q=>(gd c.Aa.xs q).Ad.xs.length+(gd c.Aa.xs q).Ai.xs.length) c.Aa.xs.length≤2147483647)∧AV (fun _=>False) w w':=by
 obtain⟨z,hz⟩:∃ z,z=w.heap.size:=⟨_,rfl⟩
 refine Bc (args:=[.agg (Am.arr c)]) 86 ⟨w,z,[(A8 w)]⟩ Try.func4 rfl (by kernel_rfl) (by kernel_rfl) (EW hz) ?_
 have hb1:=hc.Aj.1.len;have hb2:=hc.Aa.1.len;have hb3:=hc.Ah.1.len
 refine Bj [0] [(0,.agg (Am.arr c))] ?_
 refine q_c 10 0 [] [[o0,o0],[o0]] [] [(1,pt z),(3,i6 2147483647)] ⟨w,z+1,[(A8 w),(RG z c)]⟩ rfl Ac ?_
 by_cases h1:(2147483647:Int)<(c.Aj.xs.length:Int)
 ·refine Aw 9 0 [1] [[o0,(a1 1),o0,o0,oT,o0,o0,o0,o0],[o0]] [Qb z,BT ((c.Aj.xs.length:Int) > 2147483647)] [(2,.bool true)] rfl ⟨rfl,bt,Ac⟩ ?_
  refine AU [] [] (.bool true) Ac ?_
  intro w2 hw2
  exact⟨true,rfl,fun h=>absurd h (by decide),A7 hw2⟩
 by_cases h3:(2147483647:Int)<(c.Aa.xs.length:Int)
 ·refine Aw 9 0 [1] [[o0,(a1 1),o0,o0,oF,o0,o0,(a1 1),o0,o0,oT,o0,o0,o0],[o0]] [Qb z,BF ((c.Aj.xs.length:Int) > 2147483647),Qb z,BT ((c.Aa.xs.length:Int) > 2147483647)] [(2,.bool true)] rfl ⟨rfl,bf,rfl,bt,Ac⟩ ?_
  refine AU [] [] (.bool true) Ac ?_
  intro w4 hw4
  exact⟨true,rfl,fun h=>absurd h (by decide),A7 hw4⟩
 by_cases h5:(2147483647:Int)<(c.Ah.xs.length:Int)
 ·refine Aw 9 0 [1] [[o0,(a1 1),o0,o0,oF,o0,o0,(a1 1),o0,o0,oF,o0,o0,o0,(a1 1),o0,o0,oT,o0],[o0]] [Qb z,BF ((c.Aj.xs.length:Int) > 2147483647),Qb z,BF ((c.Aa.xs.length:Int) > 2147483647),Qb z,BT ((c.Ah.xs.length:Int) > 2147483647)] [(2,.bool true)] rfl ⟨rfl,bf,rfl,bf,rfl,bt,Ac⟩ ?_
  refine AU [] [] (.bool true) Ac ?_
  intro w6 hw6
  exact⟨true,rfl,fun h=>absurd h (by decide),A7 hw6⟩
 refine Aw 12 0 [0] [[o0,(a1 1),o0,o0,oF,o0,o0,(a1 1),o0,o0,oF,o0,o0,o0,(a1 1),o0,o0,oF,o0],[o0,(a1 1),o0,o0]] [Qb z,BF ((c.Aj.xs.length:Int) > 2147483647),Qb z,BF ((c.Aa.xs.length:Int) > 2147483647),Qb z,BF ((c.Ah.xs.length:Int) > 2147483647),Qb z] [(1,pt z),(3,i6 2147483647),(VA c),(29,i6 0)] rfl ⟨rfl,bf,rfl,bf,rfl,bf,rfl,Ac⟩ ?_
 refine Bl (fun m a w'=>∃ (n8:Nat) (i:Nat) (lf:Int),m=c.Aj.xs.length - i∧z+1≤n8∧(i≤c.Aj.xs.length)∧(lf=2147483647 - (sm (fun q=>(gd c.Aj.xs q).xs.length) i:Nat))∧(0≤lf∧lf≤2147483647)∧(∀ q,q<i→(gd c.Aj.xs q).xs.length≤2147483647)∧St 86 [(1,pt z),(3,i6 lf),(VA c),(29,Ae i)] [] ⟨w,n8,[(A8 w),(RG z c)]⟩ a w') (c.Aj.xs.length - 0) ?_ ?_
 ·intro a w' hs;exact⟨(z+1),0,2147483647,rfl,Nat.le_refl _,Nat.zero_le _,rfl,by omega,fun q hq=>absurd hq (Nat.not_lt_zero q),hs⟩
 rintro m a w' ⟨n8,i,lf,rfl,hn7,hki,hs1,hlf,hv1,hs⟩
 refine(?_:G Try.prog 86 [(1,pt z),(3,i6 lf),(VA c),(29,Ae i)] [] ⟨w,n8,[(A8 w),(RG z c)]⟩ _ _ _) a w' hs
 clear hs a w'
 refine Bi ?_
 by_cases h9:(i:Int)<(c.Aj.xs.length:Int)
 ·refine Aw 15 0 [1] [[oT],[o0,o0]] [BT ((i:Int)<(c.Aj.xs.length:Int))] [(1,pt z),(3,i6 lf),(VA c),(29,Ae i),(4,Ae i)] rfl ⟨bt,Ac⟩ ?_
  obtain⟨b10,o11,ha12,hF14,hc13⟩:=(hc.Aj).1.all (show 0<c.Aj.xs.length by omega)
  replace ha12:c.Aj.a=some ⟨b10,o11,none⟩:=ha12
  have hc15:=hc13 i (show i<c.Aj.xs.length by omega)
  have he16:=(hc.Aj).2 i (show i<c.Aj.xs.length by omega)
  obtain⟨y17,hy17⟩:∃ y_,y_=gd c.Aj.xs i:=⟨_,rfl⟩
  rw[←hy17]at he16 hc15
  have hyl:=he16.1.len
  by_cases h18:(lf:Int)<(y17.xs.length:Int)
  ·refine Aw 9 0 [1] [[o0,(DF 1 b10 o11 c.Aj),o0,(oi i),(oa [.via 0 (.slice y17.a y17.xs.length y17.cap)]),o0,o0,oT],[o0]] [Qb z,Df b10 o11 c.Aj,BK i,i<c.Aj.xs.length,BG,Old w b10 (o11+i) (.slice y17.a y17.xs.length y17.cap),BT ((y17.xs.length:Int) > lf)] [(2,.bool true)] rfl ⟨rfl,CZ ha12,rfl,(by omega),rfl,Bg (hc15 0 _ rfl),bt,Ac⟩ ?_
   refine AU [] [] (.bool true) Ac ?_
   intro w19 hw19
   exact⟨true,rfl,fun h=>absurd h (by decide),A7 hw19⟩
  refine Aw 12 0 [0] [[o0,(DF 1 b10 o11 c.Aj),o0,(oi i),(oa [.via 0 (.slice y17.a y17.xs.length y17.cap)]),o0,o0,oF],[o0,o0,(DF 1 b10 o11 c.Aj),o0,(oi i),(oa [.via 0 (.slice y17.a y17.xs.length y17.cap)]),o0,(ov (i6 (lf - (y17.xs.length:Int)))),o0],[(ov (i6 ((i+1:Nat):Int))),o0]] [Qb z,Df b10 o11 c.Aj,BK i,i<c.Aj.xs.length,BG,Old w b10 (o11+i) (.slice y17.a y17.xs.length y17.cap),BF ((y17.xs.length:Int) > lf),Qb z,Df b10 o11 c.Aj,BK i,i<c.Aj.xs.length,BG,Old w b10 (o11+i) (.slice y17.a y17.xs.length y17.cap),Wr ((lf:Int) - (y17.xs.length:Int)) (lf - (y17.xs.length:Int)),Wr ((i:Int)+1) (((i+1:Nat):Int))] [(1,pt z),(3,i6 (lf - (y17.xs.length:Int))),(VA c),(29,i6 ((i+1:Nat):Int))] rfl ⟨rfl,CZ ha12,rfl,(by omega),rfl,Bg (hc15 0 _ rfl),bf,rfl,CZ ha12,rfl,(by omega),rfl,Bg (hc15 0 _ rfl),Bq,Bq,Ac⟩ ?_
  refine BB (fun a w' hs=>⟨c.Aj.xs.length - (i+1),by omega,n8,(i+1),(lf - (y17.xs.length:Int)),rfl,by omega,by omega,by rw[Ox];show _=2147483647 - ((sm (fun q=>(gd c.Aj.xs q).xs.length) i+(gd c.Aj.xs i).xs.length:Nat):Int);rw[←hy17];omega,by omega,fun q hq=>if e:q=i then(by rw[e,←hy17];omega)else hv1 q (by omega),hs⟩)
 refine Aw 16 0 [0] [[oF],[o0,(a1 1),o0,o0]] [BF ((i:Int)<(c.Aj.xs.length:Int)),Qb z] [(1,pt z),(3,i6 lf),(RH c),(52,i6 0)] rfl ⟨bf,rfl,Ac⟩ ?_
 refine Bl (fun m a w'=>∃ (n21:Nat) (p:Nat) (lg:Int),m=c.Aa.xs.length - p∧n8≤n21∧(p≤c.Aa.xs.length)∧(lg=lf - (sm (fun q=>(gd c.Aa.xs q).Ad.xs.length+(gd c.Aa.xs q).Ai.xs.length) p:Nat))∧(0≤lg∧lg≤2147483647)∧(∀ q,q<p→(gd c.Aa.xs q).Ad.xs.length≤2147483647∧(gd c.Aa.xs q).Ai.xs.length≤2147483647)∧St 86 [(1,pt z),(3,i6 lg),(RH c),(52,Ae p)] [] ⟨w,n21,[(A8 w),(RG z c)]⟩ a w') (c.Aa.xs.length - 0) ?_ ?_
 ·intro a w' hs;exact⟨n8,0,lf,rfl,Nat.le_refl _,Nat.zero_le _,by show _=lf - ((0:Nat):Int);omega,by omega,fun q hq=>absurd hq (Nat.not_lt_zero q),hs⟩
 rintro m a w' ⟨n21,p,lg,rfl,hn20,hkp,hs2,hlg,hv2,hs⟩
 refine(?_:G Try.prog 86 [(1,pt z),(3,i6 lg),(RH c),(52,Ae p)] [] ⟨w,n21,[(A8 w),(RG z c)]⟩ _ _ _) a w' hs
 clear hs a w'
 refine Bi ?_
 by_cases h22:(p:Int)<(c.Aa.xs.length:Int)
 ·refine Aw 14 0 [1] [[oT],[o0,o0]] [BT ((p:Int)<(c.Aa.xs.length:Int))] [(1,pt z),(3,i6 lg),(RH c),(52,Ae p),(5,Ae p)] rfl ⟨bt,Ac⟩ ?_
  obtain⟨b23,o24,ha25,hF27,hc26⟩:=(hc.Aa).1.all (show 0<c.Aa.xs.length by omega)
  replace ha25:c.Aa.a=some ⟨b23,o24,none⟩:=ha25
  have hc28:=hc26 p (show p<c.Aa.xs.length by omega)
  have he29:=(hc.Aa).2 p (show p<c.Aa.xs.length by omega)
  obtain⟨y30,hy30⟩:∃ y_,y_=gd c.Aa.xs p:=⟨_,rfl⟩
  rw[←hy30]at he29 hc28
  have hyr:=he29.Ad.1.len;have hyq:=he29.Ai.1.len
  refine q_c 5 0 [] [[o0,(DF 1 b23 o24 c.Aa),o0,(oi p),(ol 0 (Ag.arr y30)),o0,(an 8 2)]] [Qb z,Df b23 o24 c.Aa,BK p,p<c.Aa.xs.length,BG,Fq w b23 (o24+p*8) (Ag.arr y30),Qb n21,Qb n21,Qb n21,Qb n21,Qb n21,Qb n21,Qb n21,Qb n21] [(1,pt z),(3,i6 lg),(RH c),(52,Ae p),(6,pt n21)] ⟨w,n21+1,[(A8 w),(RG z c),(bk n21 (Ag.arr y30) 47)]⟩ rfl ⟨rfl,CZ ha25,rfl,(by omega),rfl,D6 hc28,rfl,rfl,rfl,rfl,rfl,rfl,rfl,rfl,Ac⟩ ?_
  by_cases h31:(lg:Int)<(y30.Ad.xs.length:Int)
  ·refine Aw 9 0 [1] [[o0,(a1 2),o0,o0,oT,o0,o0],[o0]] [Qb n21,BT ((y30.Ad.xs.length:Int) > lg)] [(2,.bool true)] rfl ⟨rfl,bt,Ac⟩ ?_
   refine AU [] [] (.bool true) Ac ?_
   intro w32 hw32
   exact⟨true,rfl,fun h=>absurd h (by decide),A7 hw32⟩
  by_cases h33:(lg - (y30.Ad.xs.length:Int):Int)<(y30.Ai.xs.length:Int)
  ·refine Aw 9 0 [1] [[o0,(a1 2),o0,o0,oF,o0,o0,(a1 2),o0,o0,o0,(a1 2),o0,(ov (i6 (lg - (y30.Ad.xs.length:Int)))),oT,o0],[o0]] [Qb n21,BF ((y30.Ad.xs.length:Int) > lg),Qb n21,Qb n21,Wr ((lg:Int) - (y30.Ad.xs.length:Int)) (lg - (y30.Ad.xs.length:Int)),BT ((y30.Ai.xs.length:Int) > (lg - (y30.Ad.xs.length:Int)))] [(2,.bool true)] rfl ⟨rfl,bf,rfl,rfl,Bq,bt,Ac⟩ ?_
   refine AU [] [] (.bool true) Ac ?_
   intro w34 hw34
   exact⟨true,rfl,fun h=>absurd h (by decide),A7 hw34⟩
  refine Aw 12 0 [0] [[o0,(a1 2),o0,o0,oF,o0,o0,(a1 2),o0,o0,o0,(a1 2),o0,(ov (i6 (lg - (y30.Ad.xs.length:Int)))),oF,o0],[o0,o0,(a1 2),o0,o0,(a1 2),o0,(ov (i6 ((y30.Ad.xs.length+y30.Ai.xs.length:Nat):Int))),(ov (i6 (lg - ((y30.Ad.xs.length+y30.Ai.xs.length:Nat):Int)))),o0],[(ov (i6 ((p+1:Nat):Int))),o0]] [Qb n21,BF ((y30.Ad.xs.length:Int) > lg),Qb n21,Qb n21,Wr ((lg:Int) - (y30.Ad.xs.length:Int)) (lg - (y30.Ad.xs.length:Int)),BF ((y30.Ai.xs.length:Int) > (lg - (y30.Ad.xs.length:Int))),Qb n21,Qb n21,Wr ((y30.Ad.xs.length:Int)+(y30.Ai.xs.length:Int)) (((y30.Ad.xs.length+y30.Ai.xs.length:Nat):Int)),Wr ((lg:Int) - ((y30.Ad.xs.length+y30.Ai.xs.length:Nat):Int)) (lg - ((y30.Ad.xs.length+y30.Ai.xs.length:Nat):Int)),Wr ((p:Int)+1) (((p+1:Nat):Int))] [(1,pt z),(3,i6 (lg - ((y30.Ad.xs.length+y30.Ai.xs.length:Nat):Int))),(RH c),(52,i6 ((p+1:Nat):Int))] rfl ⟨rfl,bf,rfl,rfl,Bq,bf,rfl,rfl,Bq,Bq,Bq,Ac⟩ ?_
  refine CG [0,1] [(A8 w),(RG z c)] rfl rfl ?_
  refine Ce [1,3,51,52] [(1,pt z),(3,i6 (lg - ((y30.Ad.xs.length+y30.Ai.xs.length:Nat):Int))),(RH c),(52,i6 ((p+1:Nat):Int))] ?_
  refine BB (fun a w' hs=>⟨c.Aa.xs.length - (p+1),by omega,(n21+1),(p+1),(lg - ((y30.Ad.xs.length+y30.Ai.xs.length:Nat):Int)),rfl,by omega,by omega,by rw[Ox];show _=lf - ((sm (fun q=>(gd c.Aa.xs q).Ad.xs.length+(gd c.Aa.xs q).Ai.xs.length) p+((gd c.Aa.xs p).Ad.xs.length+(gd c.Aa.xs p).Ai.xs.length):Nat):Int);rw[←hy30];omega,by omega,fun q hq=>if e:q=p then(by rw[e,←hy30];omega)else hv2 q (by omega),hs⟩)
 refine Aw 15 0 [0] [[oF],[o0]] [BF ((p:Int)<(c.Aa.xs.length:Int))] [(2,.bool false)] rfl ⟨bf,Ac⟩ ?_
 refine AU [] [] (.bool false) Ac ?_
 intro w35 hw35
 have ei:i=c.Aj.xs.length:=by omega
 have ep:p=c.Aa.xs.length:=by omega
 rw[ei]at hs1;rw[ep]at hs2
 exact⟨false,rfl,fun _=>⟨⟨by omega,by omega,by omega,fun q hq=>hv1 q (by omega),fun q hq=>(hv2 q (by omega)).1,fun q hq=>(hv2 q (by omega)).2⟩,by omega⟩,A7 hw35⟩
end Go.Proofs.Ytjmcjekhgpakoaa.Ly
namespace Go.Proofs.Ytjmcjekhgpakoaa.Ck
open Go Go.Proofs.Ytjmcjekhgpakoaa.Eng Go.Proofs.Ytjmcjekhgpakoaa.Mem Go.Proofs.Ytjmcjekhgpakoaa.Ly Go.Proofs.Ytjmcjekhgpakoaa.Cf
set_option linter.unusedSimpArgs false
set_option linter.unusedVariables false
set_option maxRecDepth 100000
structure Fz{α:Type}(cells:α→List Value)(sz:Nat)(S:Nat→Prop)(W:World)(s t:Sl α)(m:List α):Prop where
 old:BD cells sz S W s
 new:BD cells sz S W t
 eq:t.xs=s.xs++m
theorem Fz.mono{α:Type}{cells:α→List Value}{sz:Nat}{S S':Nat→Prop}{W W':World}{s t:Sl α}{m:List α}(h:Fz cells sz S W s t m)(he:Ext S W W')(hS:∀ b,S b→S' b):Fz cells sz S' W' s t m:=⟨Bf he hS h.old,Bf he hS h.new,h.eq⟩
theorem Yp{α:Type}{cells:α→List Value}{sz:Nat}{S:Nat→Prop}{W:World}{f:Nat→Sl α}{m:Nat→List α}{ts:List (Sl α)}{t:Sl α}{i:Nat}(h:∀ p,p<i→Fz cells sz S W (f p) (gd ts p) (m p))(hl:ts.length=i)(hn:Fz cells sz S W (f i) t (m i)):∀ p,p<i+1→Fz cells sz S W (f p) (gd (ts++[t]) p) (m p):=by
 intro p hp
 by_cases e:p=i
 ·subst e;subst hl;rw[gd_push];exact hn
 rw[LZ (by omega)];exact h p (by omega)
theorem fam_nextI{α:Type}{xs:List α}{i:Nat}:(xs.drop i).eraseIdx 0=xs.drop (i+1):=by rw[List.eraseIdx_zero,List.tail_drop]
theorem fam_next{α β:Type}{xs:List α}{f:α→β}{i:Nat}:((xs.drop i).map f).eraseIdx 0=(xs.drop (i+1)).map f:=by rw[List.eraseIdx_zero,←List.map_tail,List.tail_drop]
theorem Sr{α:Type}{xs:List α}{i:Nat}(h:i<xs.length):0<(xs.drop i).length:=by rw[List.length_drop];omega
theorem gd_next{α:Type}[Inhabited α]{xs:List α}{i:Nat}(h:i<xs.length){y:α}(hy:y=gd xs i):y=gd (xs.drop i) 0:=by
 subst hy
 rw[Di (Sr h),Di h];simp
theorem gd_nextM{α β:Type}[Inhabited α][Inhabited β]{xs:List α}{f:α→β}{i:Nat}(h:i<xs.length){y:α}(hy:y=gd xs i):f y=gd ((xs.drop i).map f) 0:=by
 subst hy
 rw[Di (xs:=(xs.drop i).map f) (by rw[List.length_map];exact Sr h),Di h];simp
def IE(i k:Nat):List Af:=(List.range k).map fun(k:Nat)=>⟨-(i:Int), -(k:Int), -1⟩
def IK(i k:Nat):List Ak:=(List.range k).map fun(k:Nat)=>⟨-(i:Int), -(k:Int), -2,0⟩
def IG(i k:Nat):List Ap:=(List.range k).map fun(k:Nat)=>⟨-100*(i:Int) - (k:Int),false⟩
theorem mgW_succ{i k:Nat}:IE i (k+1)=IE i k++[⟨-(i:Int), -(k:Int), -1⟩]:=by unfold IE;rw[List.range_succ,List.map_append];rfl
theorem mgR_succ{i k:Nat}:IK i (k+1)=IK i k++[⟨-(i:Int), -(k:Int), -2,0⟩]:=by unfold IK;rw[List.range_succ,List.map_append];rfl
theorem mgQ_succ{i k:Nat}:IG i (k+1)=IG i k++[⟨-100*(i:Int) - (k:Int),false⟩]:=by unfold IG;rw[List.range_succ,List.map_append];rfl
theorem KD{i k:Nat}:(IE i k).length=k:=by simp[IE]
theorem KC{i k:Nat}:(IK i k).length=k:=by simp[IK]
theorem KA{i k:Nat}:(IG i k).length=k:=by simp[IG]
theorem mgW_at{i k n:Nat}{xs:List Af}(h:k<17)(hn:n=xs.length+k):gd (xs++IE i 17) n=⟨-(i:Int), -(k:Int), -1⟩:=by
 rw[SE hn (by rw[KD];exact h)];exact JR h
theorem mgR_at{i k n:Nat}{xs:List Ak}(h:k<17)(hn:n=xs.length+k):gd (xs++IK i 17) n=⟨-(i:Int), -(k:Int), -2,0⟩:=by
 rw[SE hn (by rw[KC];exact h)];exact JR h
theorem mgQ_at{i k n:Nat}{xs:List Ap}(h:k<17)(hn:n=xs.length+k):gd (xs++IG i 17) n=⟨-100*(i:Int) - (k:Int),false⟩:=by
 rw[SE hn (by rw[KA];exact h)];exact JR h
structure WB(d:Am):Prop where
 cl:d.Aj.xs.length≤255
 pl:d.Aa.xs.length≤255
 hl:d.Ah.xs.length≤255
 ws:∀ i,i<d.Aj.xs.length→(gd d.Aj.xs i).xs.length≤255
 rs:∀ i,i<d.Aa.xs.length→(gd d.Aa.xs i).Ad.xs.length≤255
 qs:∀ i,i<d.Aa.xs.length→(gd d.Aa.xs i).Ai.xs.length≤255
theorem WV{W:World}{d:Am}(hN:Nw d)(hC:BD (fun x:Sl Af=>[Sl.val x]) 1 Any W d.Aj)(hP:BD Ag.cells 8 Any W d.Aa)(hH:BD Ar.cells 3 Any W d.Ah)(hw:∀ i,i<d.Aj.xs.length→BD Af.cells 3 Any W (gd d.Aj.xs i))(hr:∀ i,i<d.Aa.xs.length→BD Ak.cells 4 Any W (gd d.Aa.xs i).Ad)(hq:∀ i,i<d.Aa.xs.length→BD Ap.cells 2 Any W (gd d.Aa.xs i).Ai):Am.ok Any W d:=by
 refine⟨hN.nums.1,hN.nums.2.1,hN.nums.2.2.1,hN.nums.2.2.2,⟨hC,fun i hi=>⟨hw i hi,fun k hk=>hN.ws i hi k hk _ _⟩⟩,⟨hP,fun i hi => ?_⟩,⟨hH,fun k hk=>hN.hs k hk _ _⟩⟩
 obtain⟨a1,a2,a3,a4,a5,a6⟩:=hN.ps i hi
 exact⟨a1,a2,a3,a4,a5,a6,⟨hr i hi,fun k hk=>hN.rs i hi k hk _ _⟩,⟨hq i hi,fun k hk=>hN.qs i hi k hk _ _⟩⟩
abbrev YH(f1 f2 f3 f4:Int)(aC:Option Addr)(cC:Nat)(XC:List (Sl Af))(aP:Option Addr)(cP:Nat)(XP:List Ag)(aH:Option Addr)(cH:Nat)(XH:List Ar):Am:=⟨f1,f2,f3,f4,⟨aC,cC,XC⟩,⟨aP,cP,XP⟩,⟨aH,cH,XH⟩⟩
theorem Uu{W:World}{d:Am}{n:Nat}{w0:World}{m:Nat}(hN:Nw d)(hF:WB d)(hs:Sat ⟨w0,m,Jd n d⟩ W):Am.ok Any W d:=by
 have r1:W.ownsRow n 43 1 (.slice d.Aj.a d.Aj.xs.length d.Aj.cap) d.Aj.xs.length (d.Aj.xs.flatMap (fun x:Sl Af=>[Sl.val x])):=hs.at (i:=0) rfl
 have r2:(Aq n 51 3 Af.cells d.Aj.xs).holds W:=hs.at (i:=1) rfl
 have r3:W.ownsRow n 47 8 (.slice d.Aa.a d.Aa.xs.length d.Aa.cap) d.Aa.xs.length (d.Aa.xs.flatMap Ag.cells):=hs.at (i:=2) rfl
 have r4:(Aq n 53 4 Ak.cells (d.Aa.xs.map Ag.Ad)).holds W:=hs.at (i:=3) rfl
 have r5:(Aq n 55 2 Ap.cells (d.Aa.xs.map Ag.Ai)).holds W:=hs.at (i:=4) rfl
 have r6:W.ownsRow n 57 3 (.slice d.Ah.a d.Ah.xs.length d.Ah.cap) d.Ah.xs.length (d.Ah.xs.flatMap Ar.cells):=hs.at (i:=5) rfl
 have b1:=hF.cl;have b2:=hF.pl;have b3:=hF.hl
 refine WV hN (Jp (fun _=>rfl) r1 (show d.Aj.xs.length≤_ by omega) (fun _ _=>trivial)) (Jp (fun _=>rfl) r3 (show d.Aa.xs.length≤_ by omega) (fun _ _=>trivial)) (Jp (fun _=>rfl) r6 (show d.Ah.xs.length≤_ by omega) (fun _ _=>trivial)) (fun i hi => ?_) (fun i hi => ?_) (fun i hi => ?_)
 ·have b:=hF.ws i hi
  exact Bf (Ext.refl _ _) (fun _ _=>trivial) (La (cells:=Af.cells) (fun _=>rfl) r2 (Nr hi) (by omega))
 ·have b:=hF.rs i hi
  exact Bf (Ext.refl _ _) (fun _ _=>trivial) (La (cells:=Ak.cells) (fun _=>rfl) r4 (List.mem_map_of_mem (Nr hi)) (by omega))
 have b:=hF.qs i hi
 exact Bf (Ext.refl _ _) (fun _ _=>trivial) (La (cells:=Ap.cells) (fun _=>rfl) r5 (List.mem_map_of_mem (Nr hi)) (by omega))
theorem WB.lim{d:Am}(h:WB d):Lim d:=⟨by have:=h.cl;omega,by have:=h.pl;omega,by have:=h.hl;omega,fun i hi=>by have:=h.ws i hi;omega,fun i hi=>by have:=h.rs i hi;omega,fun i hi=>by have:=h.qs i hi;omega⟩
section
variable (z:Nat)(f1 f2:Int)(f3 f4:Int)(aC:Option Addr)(XC:List (Sl Af))(cC b30:Nat)(XP:List Ag)(cP:Nat)(aH:Option Addr)(XH:List Ar)(cH b6:Nat)(aP:Option Addr)(n120 v:Nat)(m2 n34:Nat)(j kr:Nat)(n67 km:Nat)(w2:World)(e2:Am)(n0:Nat)(yP:Ag)(ax36:Option Addr)(cp37:Nat)(ax69:Option Addr)(tH:List Ar)(cp70:Nat)(aTR:Option Addr)(cTR:Nat)(aTQ:Option Addr)(cTQ:Nat)(aK:Option Addr)(tC:List (Sl Af))(cK b122:Nat)(tsR:List (Sl Ak))(cVR b97:Nat)(tsW:List (Sl Af))(cVW b133:Nat)(tsQ:List (Sl Ap))(cVQ:Nat)(aL:Option Addr)(tP:List Ag)(cL:Nat)(aJ:Option Addr)(cJ:Nat)(aOW:Option Addr)(cOW:Nat)(aOR:Option Addr)(cOR:Nat)(aQW:Option Addr)(cQW:Nat)(aOQ:Option Addr)(cOQ i:Nat)(y118:Ag)(y93:Sl Af)
abbrev Iq:=bk z #[i6 f1,i6 f2,i6 f3,i6 f4,.slice aC XC.length cC,.slice (some ⟨b30,0,none⟩) XP.length cP,.slice aH XH.length cH] 26
abbrev II:=bk z #[i6 f1,i6 f2,i6 f3,i6 f4,.slice (some ⟨b6,0,none⟩) XC.length cC,.slice aP XP.length cP,.slice aH XH.length cH] 26
abbrev Em:=bk z #[i6 f1,i6 f2,i6 f3,i6 f4,.slice aC XC.length cC,.slice aP XP.length cP,.slice aH XH.length cH] 26
abbrev qn0m_3:=bk n120 #[i6 (-(v:Int)),i6 (-(m2:Int)),i6 (-2),i6 0] 53
abbrev ZX:=bk n34 #[i6 (-(j:Int)),i6 (-(kr:Int)),i6 (-2),i6 0] 53
abbrev Xy:=bk n67 #[i6 (-(km:Int)),i6 (-3),i6 0] 57
abbrev Cj:Ch:= .blk w2.heap.size (.cells (Am.arr e2) 26 (0,0)) true
abbrev qn0m_7:=FC n0 53 4 Ak.cells yP.Ad (.slice ax36 (((yP.Ad.xs++IK j kr)++[(⟨-(j:Int), -(kr:Int), -2,0⟩:Ak)]).length) cp37) ((yP.Ad.xs++IK j kr)++[(⟨-(j:Int), -(kr:Int), -2,0⟩:Ak)])
abbrev XV:=FC n0 57 3 Ar.cells (⟨aH,cH,XH⟩) (.slice ax69 (((XH++tH)++[(⟨-(km:Int), -3,0⟩:Ar)]).length) cp70) ((XH++tH)++[(⟨-(km:Int), -3,0⟩:Ar)])
abbrev Q4:=FC n0 53 4 Ak.cells yP.Ad (.slice aTR ((yP.Ad.xs++IK j kr).length) cTR) (yP.Ad.xs++IK j kr)
abbrev Nz:=FC n0 55 2 Ap.cells yP.Ai (.slice aTQ ((yP.Ai.xs++IG j kr).length) cTQ) (yP.Ai.xs++IG j kr)
abbrev TD:=FC n0 53 4 Ak.cells yP.Ad (.slice yP.Ad.a yP.Ad.xs.length yP.Ad.cap) yP.Ad.xs
abbrev G8:=FC n0 43 1 (fun x:Sl Af=>[Sl.val x]) (⟨aC,cC,XC⟩) (.slice aK ((XC++tC).length) cK) (XC++tC)
abbrev YE:=Au z 44 1 (fun x:Sl Ak=>[Sl.val x]) (.slice (some ⟨b122,0,none⟩) tsR.length cVR) tsR
abbrev Ym:=Au z 43 1 (fun x:Sl Af=>[Sl.val x]) (.slice (some ⟨b97,0,none⟩) tsW.length cVW) tsW
abbrev Y0:=Au z 45 1 (fun x:Sl Ap=>[Sl.val x]) (.slice (some ⟨b133,0,none⟩) tsQ.length cVQ) tsQ
abbrev GR:=Au n0 43 1 (fun x:Sl Af=>[Sl.val x]) (.slice (some ⟨b6,0,none⟩) XC.length cC) XC
abbrev Gp:=FC n0 47 8 Ag.cells (⟨aP,cP,XP⟩) (.slice aL ((XP++tP).length) cL) (XP++tP)
abbrev GN:=FC n0 57 3 Ar.cells (⟨aH,cH,XH⟩) (.slice aJ ((XH++tH).length) cJ) (XH++tH)
abbrev CY:=Au z 43 1 (fun x:Sl Af=>[Sl.val x]) (.slice aOW tsW.length cOW) tsW
abbrev DW:=Au z 44 1 (fun x:Sl Ak=>[Sl.val x]) (.slice aOR tsR.length cOR) tsR
abbrev Nu:=Au z 43 1 (fun x:Sl Af=>[Sl.val x]) (.slice aQW tsW.length cQW) tsW
abbrev DN:=Au z 45 1 (fun x:Sl Ap=>[Sl.val x]) (.slice aOQ tsQ.length cOQ) tsQ
abbrev Gn:=Au n0 47 8 Ag.cells (.slice (some ⟨b30,0,none⟩) XP.length cP) XP
abbrev He:=Aq n0 53 4 Ak.cells (((XP.drop j).map Ag.Ad).eraseIdx 0)
abbrev Ez:=Au n0 43 1 (fun x:Sl Af=>[Sl.val x]) (.slice aC XC.length cC) XC
abbrev IB:=Aq n0 55 2 Ap.cells (((XP.drop j).map Ag.Ai).eraseIdx 0)
abbrev ED:=Aq n0 53 4 Ak.cells ((XP.drop j).map Ag.Ad)
abbrev En:=Aq n0 55 2 Ap.cells ((XP.drop j).map Ag.Ai)
abbrev EQ:=Au n0 47 8 Ag.cells (.slice aP XP.length cP) XP
abbrev DC:=Au n0 57 3 Ar.cells (.slice aH XH.length cH) XH
abbrev Fh:=Aq n0 53 4 Ak.cells (XP.map Ag.Ad)
abbrev Ic:=Aq n0 51 3 Af.cells ((XC.drop i).eraseIdx 0)
abbrev Fp:=Aq n0 55 2 Ap.cells (XP.map Ag.Ai)
abbrev VJ:EM:=(11,.slice ax36 (((yP.Ad.xs++IK j kr)++[(⟨-(j:Int), -(kr:Int), -2,0⟩:Ak)]).length) cp37)
abbrev TC:EM:=(14,.slice ax69 (((XH++tH)++[(⟨-(km:Int), -3,0⟩:Ar)]).length) cp70)
abbrev OM:=(23,Ae y118.Ad.xs.length)
abbrev O6:=(24,Ae y118.Ai.xs.length)
abbrev O8:=(19,Ae y93.xs.length)
abbrev Bv:=(3,pt w2.heap.size)
abbrev JD:=(134,Ae tsW.length)
abbrev Jl:=(166,Ae tsR.length)
abbrev Fe:=(31,Ae XC.length)
abbrev FN:=(59,Ae XP.length)
abbrev Ew:EM:=(14,.slice aJ ((XH++tH).length) cJ)
abbrev Es:EM:=(15,.slice aK ((XC++tC).length) cK)
abbrev Eh:EM:=(16,.slice aL ((XP++tP).length) cL)
end
theorem grown_calls(w:World)(f1 f2 f3 f4:Int)(aC:Option Addr)(cC:Nat)(XC:List (Sl Af))(aP:Option Addr)(cP:Nat)(XP:List Ag)(aH:Option Addr)(cH:Nat)(XH:List Ar)(n0:Nat)(w0:World)(hN:Nw (YH f1 f2 f3 f4 aC cC XC aP cP XP aH cH XH))(hF:WB (YH f1 f2 f3 f4 aC cC XC aP cP XP aH cH XH))(hO:Sat ⟨w0,w.heap.size,Jd n0 (YH f1 f2 f3 f4 aC cC XC aP cP XP aH cH XH)⟩ w)(S0:Nat→Prop)(hS0:S0=EO (Jd n0 (YH f1 f2 f3 f4 aC cC XC aP cP XP aH cH XH)))(hn0:n0≤w.heap.size):Calls Try.prog 37 #[.agg #[.int .i64 f1,.int .i64 f2,.int .i64 f3,.int .i64 f4,.slice aC XC.length cC,.slice aP XP.length cP,.slice aH XH.length cH]] w fun e w'=>e = .returned (.bool true)∧AV S0 w w':=by
 obtain⟨z,hz⟩:∃ z,z=w.heap.size:=⟨_,rfl⟩
 refine Bc (args:=[.agg #[i6 f1,i6 f2,i6 f3,i6 f4,.slice aC XC.length cC,.slice aP XP.length cP,.slice aH XH.length cH]]) 247 ⟨w,z,[(old S0 w),(Ez aC XC cC n0),(Aq n0 51 3 Af.cells XC),(EQ XP cP aP n0),(Fh XP n0),(Fp XP n0),(DC aH XH cH n0)]⟩ Try.func37 rfl (by kernel_rfl) (by kernel_rfl) (hS0 ▸ hz ▸ Vj hO (fun c hc=>by simp only[Jd,List.mem_cons,List.not_mem_nil,or_false]at hc;rcases hc with rfl | rfl | rfl | rfl | rfl | rfl <;> rfl)) ?_
 have hbc:=hF.cl;replace hbc:XC.length≤255:=hbc;have hbp:=hF.pl;replace hbp:XP.length≤255:=hbp;have hbh:=hF.hl;replace hbh:XH.length≤255:=hbh
 refine Bj [0] [(0,.agg #[i6 f1,i6 f2,i6 f3,i6 f4,.slice aC XC.length cC,.slice aP XP.length cP,.slice aH XH.length cH])] ?_
 refine q_c 6 1 [] [[o0,o0],[(an 7 7)]] [Qb z,Qb z,Qb z,Qb z,Qb z,Qb z,Qb z] [(1,pt z),(27,.agg #[i6 f1,i6 f2,i6 f3,i6 f4,.slice aC XC.length cC,.slice aP XP.length cP,.slice aH XH.length cH])] ⟨w,z+1,[(old S0 w),(Ez aC XC cC n0),(Aq n0 51 3 Af.cells XC),(EQ XP cP aP n0),(Fh XP n0),(Fp XP n0),(DC aH XH cH n0),(Em z f1 f2 f3 f4 aC XC cC XP cP aH XH cH aP)]⟩ rfl ⟨rfl,rfl,rfl,rfl,rfl,rfl,rfl,Ac⟩ ?_
 refine l_call [] [] 6 #[.agg #[i6 f1,i6 f2,i6 f3,i6 f4,.slice aC XC.length cC,.slice aP XP.length cP,.slice aH XH.length cH]] (some 28) Ac ?_
 intro w1 hw1
 have hq:=hw1.pick [1,2,3,4,5,6] rfl rfl
 refine(VC w1 (YH f1 f2 f3 f4 aC cC XC aP cP XP aH cH XH) (Uu (n:=n0) hN hF hq) hF.lim).mono ?_
 rintro e w2 ⟨e2,rfl,hsd,hcO,hkw2⟩
 have ho2:=Xz (Uu (n:=n0) (d:=(YH f1 f2 f3 f4 aC cC XC aP cP XP aH cH XH)) hN hF hq) hsd hcO;rw[hw1.size]at ho2
 obtain⟨hXS1,hXS2,hXS3,hXS4,hXS5⟩:=Vm hsd;replace hXS1:e2.Aj.xs.length=XC.length:=hXS1;replace hXS2:e2.Aa.xs.length=XP.length:=hXS2;have hXS3l:e2.Ah.xs.length=XH.length:=by rw[hXS3]
 have hnw2:z+1≤w2.heap.size:=AB hw1 hkw2
 refine⟨_,_,rfl,hw1.Tu hkw2, ?_⟩
 refine Ey 12 0 [] [[o0,(an 7 9)],[o0],[o0,(a1 7),o0,o0]] [Qb w2.heap.size,Qb w2.heap.size,Qb w2.heap.size,Qb w2.heap.size,Qb w2.heap.size,Qb w2.heap.size,Qb w2.heap.size,Qb z] [(1,pt z),(Bv w2),(4,.slice none 0 0),(Fe XC),(32,i6 0)] ⟨w,w2.heap.size+1,[(old S0 w),(Ez aC XC cC n0),(Aq n0 51 3 Af.cells XC),(EQ XP cP aP n0),(Fh XP n0),(Fp XP n0),(DC aH XH cH n0),(Em z f1 f2 f3 f4 aC XC cC XP cP aH XH cH aP),(mid (z+1) w2),(Cj w2 e2)]⟩ rfl ⟨rfl,rfl,rfl,rfl,rfl,rfl,rfl,rfl,Ac⟩ ?_
 refine g_frz0 w ?_
 refine FW z 43 1 (fun x:Sl Af=>[Sl.val x]) ?_
 refine Bl (fun m a w'=>∃ (n4:Nat) (i:Nat) (SGW:Nat→Prop) (wGW:World) (tsW:List (Sl Af)) (aOW:Option Addr) (cOW:Nat),m=XC.length - i∧w2.heap.size+1≤n4∧(i≤XC.length)∧(tsW.length=i)∧(∀ p,p<i→Fz Af.cells 3 SGW wGW (gd XC p) (gd tsW p) (IE p 17))∧St 247 [(1,pt z),(Bv w2),(4,.slice aOW tsW.length cOW),(Fe XC),(32,Ae i)] [] ⟨w,n4,[(old S0 w),(Ez aC XC cC n0),(Aq n0 51 3 Af.cells (XC.drop i)),(EQ XP cP aP n0),(Fh XP n0),(Fp XP n0),(DC aH XH cH n0),(Em z f1 f2 f3 f4 aC XC cC XP cP aH XH cH aP),(mid (z+1) w2),(Cj w2 e2),(BN SGW wGW),(CY z tsW aOW cOW)]⟩ a w') (XC.length - 0) ?_ ?_
 ·intro a w' hs;exact⟨(w2.heap.size+1),0,(fun _=>False),w,([]),none,0,rfl,Nat.le_refl _,Nat.zero_le _,rfl,fun p hp=>absurd hp (Nat.not_lt_zero p),(by(try dsimp only[Em,Cj,CY,Ez,EQ,DC,Fh,Fp,Bv,Fe]at hs ⊢);rw[List.drop_zero];exact hs)⟩
 rintro m a w' ⟨n4,i,SGW,wGW,tsW,aOW,cOW,rfl,hn3,hki,htlW,hfzW,hs⟩
 refine(?_:G Try.prog 247 [(1,pt z),(Bv w2),(4,.slice aOW tsW.length cOW),(Fe XC),(32,Ae i)] [] ⟨w,n4,[(old S0 w),(Ez aC XC cC n0),(Aq n0 51 3 Af.cells (XC.drop i)),(EQ XP cP aP n0),(Fh XP n0),(Fp XP n0),(DC aH XH cH n0),(Em z f1 f2 f3 f4 aC XC cC XP cP aH XH cH aP),(mid (z+1) w2),(Cj w2 e2),(BN SGW wGW),(CY z tsW aOW cOW)]⟩ _ _ _) a w' hs
 clear hs a w'
 refine Bi ?_
 by_cases h5:(i:Int)<(XC.length:Int)
 ·refine Aw 14 0 [1] [[oT],[o0,o0]] [BT ((i:Int)<(XC.length:Int))] [(1,pt z),(Bv w2),(4,.slice aOW tsW.length cOW),(Fe XC),(32,Ae i),(5,Ae i)] rfl ⟨bt,Ac⟩ ?_
  obtain⟨yW,hyW⟩:∃ y_,y_=gd XC i:=⟨_,rfl⟩
  refine IQ (base:=n0) (e:=43) (sz:=1) (cells:=(fun x:Sl Af=>[Sl.val x])) (a:=aC) (n:=XC.length) (cap:=cC) (xs:=XC) 1 (by omega) (fun b6 hg7 hb8 => ?_)
  subst hg7
  refine Aw 9 0 [] [[o0,(a1 7),o0,(oi i),(oa [.via 1 (.slice yW.a yW.xs.length yW.cap)]),o0],[o0]] [Qb z,BK i,i<XC.length,BG,∀ w',Ch.holds (GR XC cC b6 n0) w'→w'.cell? ⟨b6,0+i,none⟩=some (.slice yW.a yW.xs.length yW.cap)] [(1,pt z),(Bv w2),(4,.slice aOW tsW.length cOW),(Fe XC),(32,Ae i),(5,Ae i),(6,.slice yW.a yW.xs.length yW.cap),(40,i6 0)] rfl ⟨rfl,rfl,(by omega),rfl,FU (sz:=1) (j:=i) (k:=0) (fun _=>rfl) (by omega) (by rw[←hyW];rfl),Ac⟩ ?_
  have hfw:=hF.ws i (by show i<XC.length;omega);replace hfw:(gd XC i).xs.length≤255:=hfw;rw[←hyW]at hfw
  refine P9 2 [0,1,3,4,5,6,7,8,9,10,11] n0 51 3 Af.cells (XC.drop i) 0 yW (gd_next (by omega) hyW) (Sr (by omega)) [(old S0 w),(GR XC cC b6 n0),(EQ XP cP aP n0),(Fh XP n0),(Fp XP n0),(DC aH XH cH n0),(II z f1 f2 f3 f4 XC cC XP cP aH XH cH b6 aP),(mid (z+1) w2),(Cj w2 e2),(BN SGW wGW),(CY z tsW aOW cOW)] ?_
  refine RQ 12 n0 51 3 Af.cells yW.a yW.cap yW.xs (by omega) (?_:G _ _ _ _ ⟨w,n4,[(old S0 w),(GR XC cC b6 n0),(EQ XP cP aP n0),(Fh XP n0),(Fp XP n0),(DC aH XH cH n0),(II z f1 f2 f3 f4 XC cC XP cP aH XH cH b6 aP),(mid (z+1) w2),(Cj w2 e2),(BN SGW wGW),(CY z tsW aOW cOW),(Ic XC n0 i),(FC n0 51 3 Af.cells yW (.slice yW.a yW.xs.length yW.cap) yW.xs)]⟩ _ _ _)
  refine Bj [1,3,4,5,6,31,32,40] [(1,pt z),(Bv w2),(4,.slice aOW tsW.length cOW),(5,Ae i),(6,.slice yW.a yW.xs.length yW.cap),(Fe XC),(32,Ae i),(40,i6 0)] ?_
  refine Bl (fun m a w'=>∃ (n10:Nat) (kw:Nat) (aT:Option Addr) (cT:Nat),m=17 - kw∧n4≤n10∧(kw≤17)∧St 247 [(1,pt z),(Bv w2),(4,.slice aOW tsW.length cOW),(5,Ae i),(6,.slice aT ((yW.xs++IE i kw).length) cT),(Fe XC),(32,Ae i),(40,Ae kw)] [] ⟨w,n10,[(old S0 w),(GR XC cC b6 n0),(EQ XP cP aP n0),(Fh XP n0),(Fp XP n0),(DC aH XH cH n0),(II z f1 f2 f3 f4 XC cC XP cP aH XH cH b6 aP),(mid (z+1) w2),(Cj w2 e2),(BN SGW wGW),(CY z tsW aOW cOW),(Ic XC n0 i),(FC n0 51 3 Af.cells yW (.slice aT ((yW.xs++IE i kw).length) cT) (yW.xs++IE i kw))]⟩ a w') (17 - 0) ?_ ?_
  ·intro a w' hs;exact⟨n4,0,yW.a,yW.cap,rfl,Nat.le_refl _,Nat.zero_le _,(by(try dsimp only[II,Em,Cj,GR,CY,Ez,EQ,DC,Fh,Ic,Fp,Bv,Fe]at hs ⊢);rw[show IE i 0=[]from rfl,List.append_nil];exact hs)⟩
  rintro m a w' ⟨n10,kw,aT,cT,rfl,hn9,hkkw,hs⟩
  refine(?_:G Try.prog 247 [(1,pt z),(Bv w2),(4,.slice aOW tsW.length cOW),(5,Ae i),(6,.slice aT ((yW.xs++IE i kw).length) cT),(Fe XC),(32,Ae i),(40,Ae kw)] [] ⟨w,n10,[(old S0 w),(GR XC cC b6 n0),(EQ XP cP aP n0),(Fh XP n0),(Fp XP n0),(DC aH XH cH n0),(II z f1 f2 f3 f4 XC cC XP cP aH XH cH b6 aP),(mid (z+1) w2),(Cj w2 e2),(BN SGW wGW),(CY z tsW aOW cOW),(Ic XC n0 i),(FC n0 51 3 Af.cells yW (.slice aT ((yW.xs++IE i kw).length) cT) (yW.xs++IE i kw))]⟩ _ _ _) a w' hs
  clear hs a w'
  refine Bi ?_
  by_cases h11:(kw:Int)<17
  ·refine q_c 14 7 [1] [[oT],[o0,o0],[o0,o0,(ov (i6 (-(i:Int)))),o0,(ov (i6 (-(kw:Int)))),o0,o0]] [BT ((kw:Int)<17),Wr ((0:Int) - (i:Int)) (-(i:Int)),Wr ((0:Int) - (kw:Int)) (-(kw:Int))] [(1,pt z),(Bv w2),(4,.slice aOW tsW.length cOW),(5,Ae i),(Fe XC),(32,Ae i),(40,Ae kw),(43,.slice aT ((yW.xs++IE i kw).length) cT),(49,.slice (some ⟨n10,0,none⟩) 1 1)] ⟨w,n10+1,[(old S0 w),(GR XC cC b6 n0),(EQ XP cP aP n0),(Fh XP n0),(Fp XP n0),(DC aH XH cH n0),(II z f1 f2 f3 f4 XC cC XP cP aH XH cH b6 aP),(mid (z+1) w2),(Cj w2 e2),(BN SGW wGW),(CY z tsW aOW cOW),(Ic XC n0 i),(FC n0 51 3 Af.cells yW (.slice aT ((yW.xs++IE i kw).length) cT) (yW.xs++IE i kw)),(bk n10 #[i6 (-(i:Int)),i6 (-(kw:Int)),i6 (-1)] 51)]⟩ rfl ⟨bt,Bq,Bq,Ac⟩ ?_
   refine PS n0 12 13 yW (yW.xs++IE i kw) [(⟨-(i:Int), -(kw:Int), -1⟩:Af)] Af.cells 51 3 24 (.slice aT ((yW.xs++IE i kw).length) cT) n10 1 1 #[i6 (-(i:Int)),i6 (-(kw:Int)),i6 (-1)] 51 (0,0) true (some 50) (by simp only[List.length_cons,List.length_nil,List.length_append,KD,KC,KA];omega) (show n0≤n10+1 by omega) (fun ax12 cp13 n14 (hn15:n10+1≤n14) => ?_)
   refine AC 5 0 [] [[o0],[(ov (i6 ((kw+1:Nat):Int))),o0]] [Wr ((kw:Int)+1) (((kw+1:Nat):Int))] [(1,pt z),(Bv w2),(4,.slice aOW tsW.length cOW),(5,Ae i),(Fe XC),(32,Ae i),(40,i6 ((kw+1:Nat):Int)),(6,.slice ax12 (((yW.xs++IE i kw)++[(⟨-(i:Int), -(kw:Int), -1⟩:Af)]).length) cp13)] rfl ⟨Bq,Ac⟩ ?_
   refine CG [0,1,2,3,4,5,6,7,8,9,10,11,12] [(old S0 w),(GR XC cC b6 n0),(EQ XP cP aP n0),(Fh XP n0),(Fp XP n0),(DC aH XH cH n0),(II z f1 f2 f3 f4 XC cC XP cP aH XH cH b6 aP),(mid (z+1) w2),(Cj w2 e2),(BN SGW wGW),(CY z tsW aOW cOW),(Ic XC n0 i),(FC n0 51 3 Af.cells yW (.slice ax12 (((yW.xs++IE i kw)++[(⟨-(i:Int), -(kw:Int), -1⟩:Af)]).length) cp13) ((yW.xs++IE i kw)++[(⟨-(i:Int), -(kw:Int), -1⟩:Af)]))] rfl rfl ?_
   refine Ce [1,3,4,5,6,31,32,40] [(1,pt z),(Bv w2),(4,.slice aOW tsW.length cOW),(5,Ae i),(6,.slice ax12 (((yW.xs++IE i kw)++[(⟨-(i:Int), -(kw:Int), -1⟩:Af)]).length) cp13),(Fe XC),(32,Ae i),(40,i6 ((kw+1:Nat):Int))] ?_
   refine BB (fun a w' hs=>⟨17 - (kw+1),by omega,n14,(kw+1),ax12,cp13,rfl,by omega,by omega,(by(try dsimp only[II,Em,Cj,GR,CY,Ez,EQ,DC,Fh,Ic,Fp,Bv,Fe]at hs ⊢);rw[mgW_succ,←List.append_assoc];exact hs)⟩)
  refine Aw 10 0 [0] [[oF]] [BF ((kw:Int)<17)] [(1,pt z),(Bv w2),(4,.slice aOW tsW.length cOW),(5,Ae i),(6,.slice aT ((yW.xs++IE i kw).length) cT),(Fe XC),(32,Ae i),(40,Ae kw),(41,.bool false)] rfl ⟨bf,Ac⟩ ?_
  have hk17:kw=17:=by omega
  subst hk17
  refine g_frz 9 12 [0,1,2,3,4,5,6,7,8,10,11] SGW wGW (FC n0 51 3 Af.cells yW (.slice aT ((yW.xs++IE i 17).length) cT) (yW.xs++IE i 17)) [(old S0 w),(GR XC cC b6 n0),(EQ XP cP aP n0),(Fh XP n0),(Fp XP n0),(DC aH XH cH n0),(II z f1 f2 f3 f4 XC cC XP cP aH XH cH b6 aP),(mid (z+1) w2),(Cj w2 e2),(CY z tsW aOW cOW),(Ic XC n0 i)] (fun w16 S17 hx18 hu19 hv20 ho21 hz22 => ?_)
  have hfoW:∀ p,p<i→Fz Af.cells 3 S17 w16 (gd XC p) (gd tsW p) (IE p 17):=fun p hp=>(hfzW p hp).mono hx18 hu19
  have hfnW:Fz Af.cells 3 S17 w16 (gd XC i) ⟨aT,cT,(yW.xs++IE i 17)⟩ (IE i 17):=by rw[←hyW];exact⟨U5 (fun _=>rfl) ho21.2.1 (fun b hb=>hv20 b (.inr hb)),Jp (fun _=>rfl) ho21.1 (by rw[List.length_append,KD];omega) (fun b hb=>hv20 b (.inl hb)),rfl⟩
  refine q_c 1 3 [] [[o0,o0,o0]] [] [(1,pt z),(Bv w2),(Fe XC),(32,Ae i),(52,.slice aOW tsW.length cOW),(54,.slice (some ⟨n10,0,none⟩) 1 1)] ⟨w,n10+1,[(old S0 w),(GR XC cC b6 n0),(EQ XP cP aP n0),(Fh XP n0),(Fp XP n0),(DC aH XH cH n0),(II z f1 f2 f3 f4 XC cC XP cP aH XH cH b6 aP),(mid (z+1) w2),(Cj w2 e2),(CY z tsW aOW cOW),(Ic XC n0 i),(BN S17 w16),(bk n10 #[.slice aT ((yW.xs++IE i 17).length) cT] 43)]⟩ rfl Ac ?_
  refine E8 z 9 12 tsW [(⟨aT,cT,(yW.xs++IE i 17)⟩:Sl Af)] (fun x:Sl Af=>[Sl.val x]) 43 1 24 (.slice aOW tsW.length cOW) n10 1 1 #[.slice aT ((yW.xs++IE i 17).length) cT] 43 (0,0) true (some 55) (by simp only[List.length_cons,List.length_nil,List.length_append,KD,KC,KA];omega) (show z≤n10+1 by omega) (fun ax23 cp24 n25 (hn26:n10+1≤n25) => ?_)
  refine AC 5 0 [] [[o0],[(ov (i6 ((i+1:Nat):Int))),o0]] [Wr ((i:Int)+1) (((i+1:Nat):Int))] [(1,pt z),(Bv w2),(Fe XC),(32,i6 ((i+1:Nat):Int)),(4,.slice ax23 ((tsW++[(⟨aT,cT,(yW.xs++IE i 17)⟩:Sl Af)]).length) cp24)] rfl ⟨Bq,Ac⟩ ?_
  refine CG [0,1,10,2,3,4,5,6,7,8,11,9] [(old S0 w),(GR XC cC b6 n0),(Ic XC n0 i),(EQ XP cP aP n0),(Fh XP n0),(Fp XP n0),(DC aH XH cH n0),(II z f1 f2 f3 f4 XC cC XP cP aH XH cH b6 aP),(mid (z+1) w2),(Cj w2 e2),(BN S17 w16),(Au z 43 1 (fun x:Sl Af=>[Sl.val x]) (.slice ax23 ((tsW++[(⟨aT,cT,(yW.xs++IE i 17)⟩:Sl Af)]).length) cp24) (tsW++[(⟨aT,cT,(yW.xs++IE i 17)⟩:Sl Af)]))] rfl rfl ?_
  refine Ce [1,3,4,31,32] [(1,pt z),(Bv w2),(4,.slice ax23 ((tsW++[(⟨aT,cT,(yW.xs++IE i 17)⟩:Sl Af)]).length) cp24),(Fe XC),(32,i6 ((i+1:Nat):Int))] ?_
  refine BB (fun a w' hs=>⟨XC.length - (i+1),by omega,n25,(i+1),S17,w16,(tsW++[(⟨aT,cT,(yW.xs++IE i 17)⟩:Sl Af)]),ax23,cp24,rfl,by omega,by omega,by rw[List.length_append,htlW];rfl,Yp hfoW htlW hfnW,(by(try dsimp only[II,Em,Cj,GR,CY,Ez,EQ,DC,Fh,Ic,Fp,Bv,Fe]at hs ⊢);rw[fam_nextI]at hs;exact hs)⟩)
 refine Aw 24 0 [0] [[oF],[o0],[o0],[o0,(a1 7),o0,o0]] [BF ((i:Int)<(XC.length:Int)),Qb z] [(1,pt z),(Bv w2),(4,.slice aOW tsW.length cOW),(8,.slice none 0 0),(9,.slice none 0 0),(FN XP),(60,i6 0)] rfl ⟨bf,rfl,Ac⟩ ?_
 refine g_frz0 w ?_
 refine g_frz0 w ?_
 refine FW z 44 1 (fun x:Sl Ak=>[Sl.val x]) ?_
 refine FW z 45 1 (fun x:Sl Ap=>[Sl.val x]) ?_
 refine Bl (fun m a w'=>∃ (n28:Nat) (j:Nat) (SGR:Nat→Prop) (wGR:World) (tsR:List (Sl Ak)) (SGQ:Nat→Prop) (wGQ:World) (tsQ:List (Sl Ap)) (aOR:Option Addr) (cOR:Nat) (aOQ:Option Addr) (cOQ:Nat),m=XP.length - j∧n4≤n28∧(j≤XP.length)∧(tsR.length=j)∧(∀ p,p<j→Fz Ak.cells 4 SGR wGR (gd XP p).Ad (gd tsR p) (IK p 17))∧(tsQ.length=j)∧(∀ p,p<j→Fz Ap.cells 2 SGQ wGQ (gd XP p).Ai (gd tsQ p) (IG p 17))∧St 247 [(1,pt z),(Bv w2),(4,.slice aOW tsW.length cOW),(8,.slice aOR tsR.length cOR),(9,.slice aOQ tsQ.length cOQ),(FN XP),(60,Ae j)] [] ⟨w,n28,[(old S0 w),(Ez aC XC cC n0),(Aq n0 51 3 Af.cells (XC.drop i)),(EQ XP cP aP n0),(ED XP j n0),(En XP j n0),(DC aH XH cH n0),(Em z f1 f2 f3 f4 aC XC cC XP cP aH XH cH aP),(mid (z+1) w2),(Cj w2 e2),(BN SGW wGW),(CY z tsW aOW cOW),(BN SGR wGR),(BN SGQ wGQ),(DW z tsR aOR cOR),(DN z tsQ aOQ cOQ)]⟩ a w') (XP.length - 0) ?_ ?_
 ·intro a w' hs;exact⟨n4,0,(fun _=>False),w,([]),(fun _=>False),w,([]),none,0,none,0,rfl,Nat.le_refl _,Nat.zero_le _,rfl,fun p hp=>absurd hp (Nat.not_lt_zero p),rfl,fun p hp=>absurd hp (Nat.not_lt_zero p),(by(try dsimp only[II,Em,Cj,GR,CY,DW,DN,Ez,ED,En,EQ,DC,Fh,Ic,Fp,Bv,Fe,FN]at hs ⊢);rw[List.drop_zero];exact hs)⟩
 rintro m a w' ⟨n28,j,SGR,wGR,tsR,SGQ,wGQ,tsQ,aOR,cOR,aOQ,cOQ,rfl,hn27,hkj,htlR,hfzR,htlQ,hfzQ,hs⟩
 refine(?_:G Try.prog 247 [(1,pt z),(Bv w2),(4,.slice aOW tsW.length cOW),(8,.slice aOR tsR.length cOR),(9,.slice aOQ tsQ.length cOQ),(FN XP),(60,Ae j)] [] ⟨w,n28,[(old S0 w),(Ez aC XC cC n0),(Aq n0 51 3 Af.cells (XC.drop i)),(EQ XP cP aP n0),(ED XP j n0),(En XP j n0),(DC aH XH cH n0),(Em z f1 f2 f3 f4 aC XC cC XP cP aH XH cH aP),(mid (z+1) w2),(Cj w2 e2),(BN SGW wGW),(CY z tsW aOW cOW),(BN SGR wGR),(BN SGQ wGQ),(DW z tsR aOR cOR),(DN z tsQ aOQ cOQ)]⟩ _ _ _) a w' hs
 clear hs a w'
 refine Bi ?_
 by_cases h29:(j:Int)<(XP.length:Int)
 ·refine Aw 14 0 [1] [[oT],[o0,o0]] [BT ((j:Int)<(XP.length:Int))] [(1,pt z),(Bv w2),(4,.slice aOW tsW.length cOW),(8,.slice aOR tsR.length cOR),(9,.slice aOQ tsQ.length cOQ),(FN XP),(60,Ae j),(10,Ae j)] rfl ⟨bt,Ac⟩ ?_
  obtain⟨yP,hyP⟩:∃ y_,y_=gd XP j:=⟨_,rfl⟩
  refine IQ (base:=n0) (e:=47) (sz:=8) (cells:=Ag.cells) (a:=aP) (n:=XP.length) (cap:=cP) (xs:=XP) 3 (by omega) (fun b30 hg31 hb32 => ?_)
  subst hg31
  refine Aw 13 0 [] [[o0,(a1 7),o0,(oi j),o0,(oa [.via 3 (.slice yP.Ad.a yP.Ad.xs.length yP.Ad.cap)]),o0],[o0,(a1 7),o0,(oi j),o0,(oa [.via 3 (.slice yP.Ai.a yP.Ai.xs.length yP.Ai.cap)]),o0],[o0]] [Qb z,BK j,j<XP.length,BG,∀ w',Ch.holds (Gn b30 XP cP n0) w'→w'.cell? ⟨b30,0+EC 8 j+6,none⟩=some (.slice yP.Ad.a yP.Ad.xs.length yP.Ad.cap),Qb z,BK j,j<XP.length,BG,∀ w',Ch.holds (Gn b30 XP cP n0) w'→w'.cell? ⟨b30,0+EC 8 j+7,none⟩=some (.slice yP.Ai.a yP.Ai.xs.length yP.Ai.cap)] [(1,pt z),(Bv w2),(4,.slice aOW tsW.length cOW),(8,.slice aOR tsR.length cOR),(9,.slice aOQ tsQ.length cOQ),(FN XP),(60,Ae j),(10,Ae j),(11,.slice yP.Ad.a yP.Ad.xs.length yP.Ad.cap),(12,.slice yP.Ai.a yP.Ai.xs.length yP.Ai.cap),(75,i6 0)] rfl ⟨rfl,rfl,(by omega),rfl,FU (sz:=8) (j:=j) (k:=6) (fun _=>rfl) (by omega) (by rw[←hyP];rfl),rfl,rfl,(by omega),rfl,FU (sz:=8) (j:=j) (k:=7) (fun _=>rfl) (by omega) (by rw[←hyP];rfl),Ac⟩ ?_
  have hfr:=hF.rs j (by show j<XP.length;omega);replace hfr:(gd XP j).Ad.xs.length≤255:=hfr;have hfq:=hF.qs j (by show j<XP.length;omega);replace hfq:(gd XP j).Ai.xs.length≤255:=hfq;rw[←hyP]at hfr hfq
  refine P9 4 [0,1,2,3,5,6,7,8,9,10,11,12,13,14,15] n0 53 4 Ak.cells ((XP.drop j).map Ag.Ad) 0 yP.Ad (gd_nextM (by omega) hyP) (by rw[List.length_map];exact Sr (by omega)) [(old S0 w),(Ez aC XC cC n0),(Aq n0 51 3 Af.cells (XC.drop i)),(Gn b30 XP cP n0),(En XP j n0),(DC aH XH cH n0),(Iq z f1 f2 f3 f4 aC XC cC b30 XP cP aH XH cH),(mid (z+1) w2),(Cj w2 e2),(BN SGW wGW),(CY z tsW aOW cOW),(BN SGR wGR),(BN SGQ wGQ),(DW z tsR aOR cOR),(DN z tsQ aOQ cOQ)] ?_
  refine RQ 16 n0 53 4 Ak.cells yP.Ad.a yP.Ad.cap yP.Ad.xs (by omega) (?_:G _ _ _ _ ⟨w,n28,[(old S0 w),(Ez aC XC cC n0),(Aq n0 51 3 Af.cells (XC.drop i)),(Gn b30 XP cP n0),(En XP j n0),(DC aH XH cH n0),(Iq z f1 f2 f3 f4 aC XC cC b30 XP cP aH XH cH),(mid (z+1) w2),(Cj w2 e2),(BN SGW wGW),(CY z tsW aOW cOW),(BN SGR wGR),(BN SGQ wGQ),(DW z tsR aOR cOR),(DN z tsQ aOQ cOQ),(He XP j n0),(TD n0 yP)]⟩ _ _ _)
  refine P9 4 [0,1,2,3,5,6,7,8,9,10,11,12,13,14,15,16] n0 55 2 Ap.cells ((XP.drop j).map Ag.Ai) 0 yP.Ai (gd_nextM (by omega) hyP) (by rw[List.length_map];exact Sr (by omega)) [(old S0 w),(Ez aC XC cC n0),(Aq n0 51 3 Af.cells (XC.drop i)),(Gn b30 XP cP n0),(DC aH XH cH n0),(Iq z f1 f2 f3 f4 aC XC cC b30 XP cP aH XH cH),(mid (z+1) w2),(Cj w2 e2),(BN SGW wGW),(CY z tsW aOW cOW),(BN SGR wGR),(BN SGQ wGQ),(DW z tsR aOR cOR),(DN z tsQ aOQ cOQ),(He XP j n0),(TD n0 yP)] ?_
  refine RQ 17 n0 55 2 Ap.cells yP.Ai.a yP.Ai.cap yP.Ai.xs (by omega) (?_:G _ _ _ _ ⟨w,n28,[(old S0 w),(Ez aC XC cC n0),(Aq n0 51 3 Af.cells (XC.drop i)),(Gn b30 XP cP n0),(DC aH XH cH n0),(Iq z f1 f2 f3 f4 aC XC cC b30 XP cP aH XH cH),(mid (z+1) w2),(Cj w2 e2),(BN SGW wGW),(CY z tsW aOW cOW),(BN SGR wGR),(BN SGQ wGQ),(DW z tsR aOR cOR),(DN z tsQ aOQ cOQ),(He XP j n0),(TD n0 yP),(IB XP j n0),(FC n0 55 2 Ap.cells yP.Ai (.slice yP.Ai.a yP.Ai.xs.length yP.Ai.cap) yP.Ai.xs)]⟩ _ _ _)
  refine Bj [1,3,4,8,9,10,11,12,59,60,75] [(1,pt z),(Bv w2),(4,.slice aOW tsW.length cOW),(8,.slice aOR tsR.length cOR),(9,.slice aOQ tsQ.length cOQ),(10,Ae j),(11,.slice yP.Ad.a yP.Ad.xs.length yP.Ad.cap),(12,.slice yP.Ai.a yP.Ai.xs.length yP.Ai.cap),(FN XP),(60,Ae j),(75,i6 0)] ?_
  refine Bl (fun m a w'=>∃ (n34:Nat) (kr:Nat) (aTR:Option Addr) (cTR:Nat) (aTQ:Option Addr) (cTQ:Nat),m=17 - kr∧n28≤n34∧(kr≤17)∧St 247 [(1,pt z),(Bv w2),(4,.slice aOW tsW.length cOW),(8,.slice aOR tsR.length cOR),(9,.slice aOQ tsQ.length cOQ),(10,Ae j),(11,.slice aTR ((yP.Ad.xs++IK j kr).length) cTR),(12,.slice aTQ ((yP.Ai.xs++IG j kr).length) cTQ),(FN XP),(60,Ae j),(75,Ae kr)] [] ⟨w,n34,[(old S0 w),(Ez aC XC cC n0),(Aq n0 51 3 Af.cells (XC.drop i)),(Gn b30 XP cP n0),(DC aH XH cH n0),(Iq z f1 f2 f3 f4 aC XC cC b30 XP cP aH XH cH),(mid (z+1) w2),(Cj w2 e2),(BN SGW wGW),(CY z tsW aOW cOW),(BN SGR wGR),(BN SGQ wGQ),(DW z tsR aOR cOR),(DN z tsQ aOQ cOQ),(He XP j n0),(Q4 j kr n0 yP aTR cTR),(IB XP j n0),(Nz j kr n0 yP aTQ cTQ)]⟩ a w') (17 - 0) ?_ ?_
  ·intro a w' hs;exact⟨n28,0,yP.Ad.a,yP.Ad.cap,yP.Ai.a,yP.Ai.cap,rfl,Nat.le_refl _,Nat.zero_le _,(by(try dsimp only[Iq,II,Em,Cj,Q4,Nz,TD,GR,CY,DW,DN,Gn,He,Ez,IB,ED,En,EQ,DC,Fh,Ic,Fp,Bv,Fe,FN]at hs ⊢);rw[show IK j 0=[]from rfl,show IG j 0=[]from rfl,List.append_nil,List.append_nil];exact hs)⟩
  rintro m a w' ⟨n34,kr,aTR,cTR,aTQ,cTQ,rfl,hn33,hkkr,hs⟩
  refine(?_:G Try.prog 247 [(1,pt z),(Bv w2),(4,.slice aOW tsW.length cOW),(8,.slice aOR tsR.length cOR),(9,.slice aOQ tsQ.length cOQ),(10,Ae j),(11,.slice aTR ((yP.Ad.xs++IK j kr).length) cTR),(12,.slice aTQ ((yP.Ai.xs++IG j kr).length) cTQ),(FN XP),(60,Ae j),(75,Ae kr)] [] ⟨w,n34,[(old S0 w),(Ez aC XC cC n0),(Aq n0 51 3 Af.cells (XC.drop i)),(Gn b30 XP cP n0),(DC aH XH cH n0),(Iq z f1 f2 f3 f4 aC XC cC b30 XP cP aH XH cH),(mid (z+1) w2),(Cj w2 e2),(BN SGW wGW),(CY z tsW aOW cOW),(BN SGR wGR),(BN SGQ wGQ),(DW z tsR aOR cOR),(DN z tsQ aOQ cOQ),(He XP j n0),(Q4 j kr n0 yP aTR cTR),(IB XP j n0),(Nz j kr n0 yP aTQ cTQ)]⟩ _ _ _) a w' hs
  clear hs a w'
  refine Bi ?_
  by_cases h35:(kr:Int)<17
  ·refine q_c 15 7 [1] [[oT],[o0,o0],[o0,o0,(ov (i6 (-(j:Int)))),o0,(ov (i6 (-(kr:Int)))),o0,o0]] [BT ((kr:Int)<17),Wr ((0:Int) - (j:Int)) (-(j:Int)),Wr ((0:Int) - (kr:Int)) (-(kr:Int))] [(1,pt z),(Bv w2),(4,.slice aOW tsW.length cOW),(8,.slice aOR tsR.length cOR),(9,.slice aOQ tsQ.length cOQ),(10,Ae j),(12,.slice aTQ ((yP.Ai.xs++IG j kr).length) cTQ),(FN XP),(60,Ae j),(75,Ae kr),(13,Ae kr),(78,.slice aTR ((yP.Ad.xs++IK j kr).length) cTR),(84,.slice (some ⟨n34,0,none⟩) 1 1)] ⟨w,n34+1,[(old S0 w),(Ez aC XC cC n0),(Aq n0 51 3 Af.cells (XC.drop i)),(Gn b30 XP cP n0),(DC aH XH cH n0),(Iq z f1 f2 f3 f4 aC XC cC b30 XP cP aH XH cH),(mid (z+1) w2),(Cj w2 e2),(BN SGW wGW),(CY z tsW aOW cOW),(BN SGR wGR),(BN SGQ wGQ),(DW z tsR aOR cOR),(DN z tsQ aOQ cOQ),(He XP j n0),(Q4 j kr n0 yP aTR cTR),(IB XP j n0),(Nz j kr n0 yP aTQ cTQ),(ZX n34 j kr)]⟩ rfl ⟨bt,Bq,Bq,Ac⟩ ?_
   refine PS n0 15 18 yP.Ad (yP.Ad.xs++IK j kr) [(⟨-(j:Int), -(kr:Int), -2,0⟩:Ak)] Ak.cells 53 4 32 (.slice aTR ((yP.Ad.xs++IK j kr).length) cTR) n34 1 1 #[i6 (-(j:Int)),i6 (-(kr:Int)),i6 (-2),i6 0] 53 (0,0) true (some 85) (by simp only[List.length_cons,List.length_nil,List.length_append,KD,KC,KA];omega) (show n0≤n34+1 by omega) (fun ax36 cp37 n38 (hn39:n34+1≤n38) => ?_)
   refine Ey 3 7 [] [[o0],[o0,o0,(ov (i6 ((-100)*(j:Int)))),o0,(ov (i6 (((-100)*(j:Int)) - (kr:Int)))),o0,o0]] [Wr ((-100:Int)*(j:Int)) ((-100)*(j:Int)),Wr (((-100)*(j:Int):Int) - (kr:Int)) (((-100)*(j:Int)) - (kr:Int))] [(1,pt z),(Bv w2),(4,.slice aOW tsW.length cOW),(8,.slice aOR tsR.length cOR),(9,.slice aOQ tsQ.length cOQ),(10,Ae j),(FN XP),(60,Ae j),(75,Ae kr),(VJ j kr yP ax36 cp37),(86,.slice aTQ ((yP.Ai.xs++IG j kr).length) cTQ),(92,.slice (some ⟨n38,0,none⟩) 1 1)] ⟨w,n38+1,[(old S0 w),(Ez aC XC cC n0),(Aq n0 51 3 Af.cells (XC.drop i)),(Gn b30 XP cP n0),(DC aH XH cH n0),(Iq z f1 f2 f3 f4 aC XC cC b30 XP cP aH XH cH),(mid (z+1) w2),(Cj w2 e2),(BN SGW wGW),(CY z tsW aOW cOW),(BN SGR wGR),(BN SGQ wGQ),(DW z tsR aOR cOR),(DN z tsQ aOQ cOQ),(He XP j n0),(qn0m_7 j kr n0 yP ax36 cp37),(IB XP j n0),(Nz j kr n0 yP aTQ cTQ),(ZX n34 j kr),(bk n38 #[i6 (((-100)*(j:Int)) - (kr:Int)),.bool false] 55)]⟩ rfl ⟨Bq,Bq,Ac⟩ ?_
   refine PS n0 17 19 yP.Ai (yP.Ai.xs++IG j kr) [(⟨((-100)*(j:Int)) - (kr:Int),false⟩:Ap)] Ap.cells 55 2 16 (.slice aTQ ((yP.Ai.xs++IG j kr).length) cTQ) n38 1 1 #[i6 (((-100)*(j:Int)) - (kr:Int)),.bool false] 55 (0,0) true (some 93) (by simp only[List.length_cons,List.length_nil,List.length_append,KD,KC,KA];omega) (show n0≤n38+1 by omega) (fun ax40 cp41 n42 (hn43:n38+1≤n42) => ?_)
   refine AC 5 0 [] [[o0],[(ov (i6 ((kr+1:Nat):Int))),o0]] [Wr ((kr:Int)+1) (((kr+1:Nat):Int))] [(1,pt z),(Bv w2),(4,.slice aOW tsW.length cOW),(8,.slice aOR tsR.length cOR),(9,.slice aOQ tsQ.length cOQ),(10,Ae j),(FN XP),(60,Ae j),(75,i6 ((kr+1:Nat):Int)),(VJ j kr yP ax36 cp37),(12,.slice ax40 (((yP.Ai.xs++IG j kr)++[(⟨((-100)*(j:Int)) - (kr:Int),false⟩:Ap)]).length) cp41)] rfl ⟨Bq,Ac⟩ ?_
   refine CG [0,1,2,3,4,5,6,7,8,9,10,11,12,13,14,15,16,17] [(old S0 w),(Ez aC XC cC n0),(Aq n0 51 3 Af.cells (XC.drop i)),(Gn b30 XP cP n0),(DC aH XH cH n0),(Iq z f1 f2 f3 f4 aC XC cC b30 XP cP aH XH cH),(mid (z+1) w2),(Cj w2 e2),(BN SGW wGW),(CY z tsW aOW cOW),(BN SGR wGR),(BN SGQ wGQ),(DW z tsR aOR cOR),(DN z tsQ aOQ cOQ),(He XP j n0),(qn0m_7 j kr n0 yP ax36 cp37),(IB XP j n0),(FC n0 55 2 Ap.cells yP.Ai (.slice ax40 (((yP.Ai.xs++IG j kr)++[(⟨((-100)*(j:Int)) - (kr:Int),false⟩:Ap)]).length) cp41) ((yP.Ai.xs++IG j kr)++[(⟨((-100)*(j:Int)) - (kr:Int),false⟩:Ap)]))] rfl rfl ?_
   refine Ce [1,3,4,8,9,10,11,12,59,60,75] [(1,pt z),(Bv w2),(4,.slice aOW tsW.length cOW),(8,.slice aOR tsR.length cOR),(9,.slice aOQ tsQ.length cOQ),(10,Ae j),(VJ j kr yP ax36 cp37),(12,.slice ax40 (((yP.Ai.xs++IG j kr)++[(⟨((-100)*(j:Int)) - (kr:Int),false⟩:Ap)]).length) cp41),(FN XP),(60,Ae j),(75,i6 ((kr+1:Nat):Int))] ?_
   refine BB (fun a w' hs=>⟨17 - (kr+1),by omega,n42,(kr+1),ax36,cp37,ax40,cp41,rfl,by omega,by omega,(by(try dsimp only[Iq,II,Em,ZX,Cj,qn0m_7,Q4,Nz,GR,CY,DW,DN,Gn,He,Ez,IB,ED,En,EQ,DC,Fh,Ic,Fp,VJ,Bv,Fe,FN]at hs ⊢);rw[mgR_succ,mgQ_succ,←List.append_assoc,←List.append_assoc];exact hs)⟩)
  refine Aw 11 0 [0] [[oF]] [BF ((kr:Int)<17)] [(1,pt z),(Bv w2),(4,.slice aOW tsW.length cOW),(8,.slice aOR tsR.length cOR),(9,.slice aOQ tsQ.length cOQ),(10,Ae j),(11,.slice aTR ((yP.Ad.xs++IK j kr).length) cTR),(12,.slice aTQ ((yP.Ai.xs++IG j kr).length) cTQ),(FN XP),(60,Ae j),(75,Ae kr),(76,.bool false)] rfl ⟨bf,Ac⟩ ?_
  have hk17:kr=17:=by omega
  subst hk17
  refine g_frz 10 15 [0,1,2,3,4,5,6,7,8,9,11,12,13,14,16,17] SGR wGR (FC n0 53 4 Ak.cells yP.Ad (.slice aTR ((yP.Ad.xs++IK j 17).length) cTR) (yP.Ad.xs++IK j 17)) [(old S0 w),(Ez aC XC cC n0),(Aq n0 51 3 Af.cells (XC.drop i)),(Gn b30 XP cP n0),(DC aH XH cH n0),(Iq z f1 f2 f3 f4 aC XC cC b30 XP cP aH XH cH),(mid (z+1) w2),(Cj w2 e2),(BN SGW wGW),(CY z tsW aOW cOW),(BN SGQ wGQ),(DW z tsR aOR cOR),(DN z tsQ aOQ cOQ),(He XP j n0),(IB XP j n0),(FC n0 55 2 Ap.cells yP.Ai (.slice aTQ ((yP.Ai.xs++IG j 17).length) cTQ) (yP.Ai.xs++IG j 17))] (fun w44 S45 hx46 hu47 hv48 ho49 hz50 => ?_)
  have hfoR:∀ p,p<j→Fz Ak.cells 4 S45 w44 (gd XP p).Ad (gd tsR p) (IK p 17):=fun p hp=>(hfzR p hp).mono hx46 hu47
  have hfnR:Fz Ak.cells 4 S45 w44 (gd XP j).Ad ⟨aTR,cTR,(yP.Ad.xs++IK j 17)⟩ (IK j 17):=by rw[←hyP];exact⟨U5 (fun _=>rfl) ho49.2.1 (fun b hb=>hv48 b (.inr hb)),Jp (fun _=>rfl) ho49.1 (by rw[List.length_append,KC];omega) (fun b hb=>hv48 b (.inl hb)),rfl⟩
  refine g_frz 10 15 [0,1,2,3,4,5,6,7,8,9,11,12,13,14,16] SGQ wGQ (FC n0 55 2 Ap.cells yP.Ai (.slice aTQ ((yP.Ai.xs++IG j 17).length) cTQ) (yP.Ai.xs++IG j 17)) [(old S0 w),(Ez aC XC cC n0),(Aq n0 51 3 Af.cells (XC.drop i)),(Gn b30 XP cP n0),(DC aH XH cH n0),(Iq z f1 f2 f3 f4 aC XC cC b30 XP cP aH XH cH),(mid (z+1) w2),(Cj w2 e2),(BN SGW wGW),(CY z tsW aOW cOW),(DW z tsR aOR cOR),(DN z tsQ aOQ cOQ),(He XP j n0),(IB XP j n0),(BN S45 w44)] (fun w51 S52 hx53 hu54 hv55 ho56 hz57 => ?_)
  have hfoQ:∀ p,p<j→Fz Ap.cells 2 S52 w51 (gd XP p).Ai (gd tsQ p) (IG p 17):=fun p hp=>(hfzQ p hp).mono hx53 hu54
  have hfnQ:Fz Ap.cells 2 S52 w51 (gd XP j).Ai ⟨aTQ,cTQ,(yP.Ai.xs++IG j 17)⟩ (IG j 17):=by rw[←hyP];exact⟨U5 (fun _=>rfl) ho56.2.1 (fun b hb=>hv55 b (.inr hb)),Jp (fun _=>rfl) ho56.1 (by rw[List.length_append,KA];omega) (fun b hb=>hv55 b (.inl hb)),rfl⟩
  refine q_c 1 3 [] [[o0,o0,o0]] [] [(1,pt z),(Bv w2),(4,.slice aOW tsW.length cOW),(9,.slice aOQ tsQ.length cOQ),(12,.slice aTQ ((yP.Ai.xs++IG j 17).length) cTQ),(FN XP),(60,Ae j),(95,.slice aOR tsR.length cOR),(97,.slice (some ⟨n34,0,none⟩) 1 1)] ⟨w,n34+1,[(old S0 w),(Ez aC XC cC n0),(Aq n0 51 3 Af.cells (XC.drop i)),(Gn b30 XP cP n0),(DC aH XH cH n0),(Iq z f1 f2 f3 f4 aC XC cC b30 XP cP aH XH cH),(mid (z+1) w2),(Cj w2 e2),(BN SGW wGW),(CY z tsW aOW cOW),(DW z tsR aOR cOR),(DN z tsQ aOQ cOQ),(He XP j n0),(IB XP j n0),(BN S45 w44),(BN S52 w51),(bk n34 #[.slice aTR ((yP.Ad.xs++IK j 17).length) cTR] 44)]⟩ rfl Ac ?_
  refine E8 z 10 16 tsR [(⟨aTR,cTR,(yP.Ad.xs++IK j 17)⟩:Sl Ak)] (fun x:Sl Ak=>[Sl.val x]) 44 1 24 (.slice aOR tsR.length cOR) n34 1 1 #[.slice aTR ((yP.Ad.xs++IK j 17).length) cTR] 44 (0,0) true (some 98) (by simp only[List.length_cons,List.length_nil,List.length_append,KD,KC,KA];omega) (show z≤n34+1 by omega) (fun ax58 cp59 n60 (hn61:n34+1≤n60) => ?_)
  refine Ey 3 3 [] [[o0],[o0,o0,o0]] [] [(1,pt z),(Bv w2),(4,.slice aOW tsW.length cOW),(FN XP),(60,Ae j),(8,.slice ax58 ((tsR++[(⟨aTR,cTR,(yP.Ad.xs++IK j 17)⟩:Sl Ak)]).length) cp59),(99,.slice aOQ tsQ.length cOQ),(101,.slice (some ⟨n60,0,none⟩) 1 1)] ⟨w,n60+1,[(old S0 w),(Ez aC XC cC n0),(Aq n0 51 3 Af.cells (XC.drop i)),(Gn b30 XP cP n0),(DC aH XH cH n0),(Iq z f1 f2 f3 f4 aC XC cC b30 XP cP aH XH cH),(mid (z+1) w2),(Cj w2 e2),(BN SGW wGW),(CY z tsW aOW cOW),(Au z 44 1 (fun x:Sl Ak=>[Sl.val x]) (.slice ax58 ((tsR++[(⟨aTR,cTR,(yP.Ad.xs++IK j 17)⟩:Sl Ak)]).length) cp59) (tsR++[(⟨aTR,cTR,(yP.Ad.xs++IK j 17)⟩:Sl Ak)])),(DN z tsQ aOQ cOQ),(He XP j n0),(IB XP j n0),(BN S45 w44),(BN S52 w51),(bk n34 #[.slice aTR ((yP.Ad.xs++IK j 17).length) cTR] 44),(bk n60 #[.slice aTQ ((yP.Ai.xs++IG j 17).length) cTQ] 45)]⟩ rfl Ac ?_
  refine E8 z 11 17 tsQ [(⟨aTQ,cTQ,(yP.Ai.xs++IG j 17)⟩:Sl Ap)] (fun x:Sl Ap=>[Sl.val x]) 45 1 24 (.slice aOQ tsQ.length cOQ) n60 1 1 #[.slice aTQ ((yP.Ai.xs++IG j 17).length) cTQ] 45 (0,0) true (some 102) (by simp only[List.length_cons,List.length_nil,List.length_append,KD,KC,KA];omega) (show z≤n60+1 by omega) (fun ax62 cp63 n64 (hn65:n60+1≤n64) => ?_)
  refine AC 5 0 [] [[o0],[(ov (i6 ((j+1:Nat):Int))),o0]] [Wr ((j:Int)+1) (((j+1:Nat):Int))] [(1,pt z),(Bv w2),(4,.slice aOW tsW.length cOW),(FN XP),(60,i6 ((j+1:Nat):Int)),(8,.slice ax58 ((tsR++[(⟨aTR,cTR,(yP.Ad.xs++IK j 17)⟩:Sl Ak)]).length) cp59),(9,.slice ax62 ((tsQ++[(⟨aTQ,cTQ,(yP.Ai.xs++IG j 17)⟩:Sl Ap)]).length) cp63)] rfl ⟨Bq,Ac⟩ ?_
  refine CG [0,1,2,3,12,13,4,5,6,7,8,9,14,15,10,11] [(old S0 w),(Ez aC XC cC n0),(Aq n0 51 3 Af.cells (XC.drop i)),(Gn b30 XP cP n0),(He XP j n0),(IB XP j n0),(DC aH XH cH n0),(Iq z f1 f2 f3 f4 aC XC cC b30 XP cP aH XH cH),(mid (z+1) w2),(Cj w2 e2),(BN SGW wGW),(CY z tsW aOW cOW),(BN S45 w44),(BN S52 w51),(Au z 44 1 (fun x:Sl Ak=>[Sl.val x]) (.slice ax58 ((tsR++[(⟨aTR,cTR,(yP.Ad.xs++IK j 17)⟩:Sl Ak)]).length) cp59) (tsR++[(⟨aTR,cTR,(yP.Ad.xs++IK j 17)⟩:Sl Ak)])),(Au z 45 1 (fun x:Sl Ap=>[Sl.val x]) (.slice ax62 ((tsQ++[(⟨aTQ,cTQ,(yP.Ai.xs++IG j 17)⟩:Sl Ap)]).length) cp63) (tsQ++[(⟨aTQ,cTQ,(yP.Ai.xs++IG j 17)⟩:Sl Ap)]))] rfl rfl ?_
  refine Ce [1,3,4,8,9,59,60] [(1,pt z),(Bv w2),(4,.slice aOW tsW.length cOW),(8,.slice ax58 ((tsR++[(⟨aTR,cTR,(yP.Ad.xs++IK j 17)⟩:Sl Ak)]).length) cp59),(9,.slice ax62 ((tsQ++[(⟨aTQ,cTQ,(yP.Ai.xs++IG j 17)⟩:Sl Ap)]).length) cp63),(FN XP),(60,i6 ((j+1:Nat):Int))] ?_
  refine BB (fun a w' hs=>⟨XP.length - (j+1),by omega,n64,(j+1),S45,w44,(tsR++[(⟨aTR,cTR,(yP.Ad.xs++IK j 17)⟩:Sl Ak)]),S52,w51,(tsQ++[(⟨aTQ,cTQ,(yP.Ai.xs++IG j 17)⟩:Sl Ap)]),ax58,cp59,ax62,cp63,rfl,by omega,by omega,by rw[List.length_append,htlR];rfl,Yp hfoR htlR hfnR,by rw[List.length_append,htlQ];rfl,Yp hfoQ htlQ hfnQ,(by(try dsimp only[Iq,II,Em,Cj,Q4,Nz,GR,CY,DW,DN,Gn,He,Ez,IB,ED,En,EQ,DC,Fh,Ic,Fp,Bv,Fe,FN]at hs ⊢);rw[fam_next,fam_next]at hs;exact hs)⟩)
 refine Aw 28 0 [0] [[oF],[o0,(a1 7),o0],[o0,(a1 7),o0],[o0,(a1 7),o0],[o0]] [BF ((j:Int)<(XP.length:Int)),Qb z,Qb z,Qb z] [(1,pt z),(Bv w2),(4,.slice aOW tsW.length cOW),(8,.slice aOR tsR.length cOR),(9,.slice aOQ tsQ.length cOQ),(14,.slice aH XH.length cH),(15,.slice aC XC.length cC),(16,.slice aP XP.length cP),(110,i6 0)] rfl ⟨bf,rfl,rfl,rfl,Ac⟩ ?_
 refine RQ 6 n0 57 3 Ar.cells aH cH XH (by omega) (?_:G _ _ _ _ ⟨w,n28,[(old S0 w),(Ez aC XC cC n0),(Aq n0 51 3 Af.cells (XC.drop i)),(EQ XP cP aP n0),(ED XP j n0),(En XP j n0),(FC n0 57 3 Ar.cells (⟨aH,cH,XH⟩) (.slice aH XH.length cH) XH),(Em z f1 f2 f3 f4 aC XC cC XP cP aH XH cH aP),(mid (z+1) w2),(Cj w2 e2),(BN SGW wGW),(CY z tsW aOW cOW),(BN SGR wGR),(BN SGQ wGQ),(DW z tsR aOR cOR),(DN z tsQ aOQ cOQ)]⟩ _ _ _)
 refine RQ 1 n0 43 1 (fun x:Sl Af=>[Sl.val x]) aC cC XC (by omega) (?_:G _ _ _ _ ⟨w,n28,[(old S0 w),(FC n0 43 1 (fun x:Sl Af=>[Sl.val x]) (⟨aC,cC,XC⟩) (.slice aC XC.length cC) XC),(Aq n0 51 3 Af.cells (XC.drop i)),(EQ XP cP aP n0),(ED XP j n0),(En XP j n0),(FC n0 57 3 Ar.cells (⟨aH,cH,XH⟩) (.slice aH XH.length cH) XH),(Em z f1 f2 f3 f4 aC XC cC XP cP aH XH cH aP),(mid (z+1) w2),(Cj w2 e2),(BN SGW wGW),(CY z tsW aOW cOW),(BN SGR wGR),(BN SGQ wGQ),(DW z tsR aOR cOR),(DN z tsQ aOQ cOQ)]⟩ _ _ _)
 refine RQ 3 n0 47 8 Ag.cells aP cP XP (by omega) (?_:G _ _ _ _ ⟨w,n28,[(old S0 w),(FC n0 43 1 (fun x:Sl Af=>[Sl.val x]) (⟨aC,cC,XC⟩) (.slice aC XC.length cC) XC),(Aq n0 51 3 Af.cells (XC.drop i)),(FC n0 47 8 Ag.cells (⟨aP,cP,XP⟩) (.slice aP XP.length cP) XP),(ED XP j n0),(En XP j n0),(FC n0 57 3 Ar.cells (⟨aH,cH,XH⟩) (.slice aH XH.length cH) XH),(Em z f1 f2 f3 f4 aC XC cC XP cP aH XH cH aP),(mid (z+1) w2),(Cj w2 e2),(BN SGW wGW),(CY z tsW aOW cOW),(BN SGR wGR),(BN SGQ wGQ),(DW z tsR aOR cOR),(DN z tsQ aOQ cOQ)]⟩ _ _ _)
 refine Bl (fun m a w'=>∃ (n67:Nat) (km:Nat) (tH:List Ar) (tC:List (Sl Af)) (tP:List Ag) (aJ:Option Addr) (cJ:Nat) (aK:Option Addr) (cK:Nat) (aL:Option Addr) (cL:Nat),m=17 - km∧n28≤n67∧(km≤17)∧(tH.length=km)∧(tC.length=km)∧(tP.length=km)∧St 247 [(1,pt z),(Bv w2),(4,.slice aOW tsW.length cOW),(8,.slice aOR tsR.length cOR),(9,.slice aOQ tsQ.length cOQ),(Ew XH tH aJ cJ),(Es XC aK tC cK),(Eh XP aL tP cL),(110,Ae km)] [] ⟨w,n67,[(old S0 w),(G8 aC XC cC n0 aK tC cK),(Aq n0 51 3 Af.cells (XC.drop i)),(Gp XP cP aP n0 aL tP cL),(ED XP j n0),(En XP j n0),(GN aH XH cH n0 tH aJ cJ),(Em z f1 f2 f3 f4 aC XC cC XP cP aH XH cH aP),(mid (z+1) w2),(Cj w2 e2),(BN SGW wGW),(CY z tsW aOW cOW),(BN SGR wGR),(BN SGQ wGQ),(DW z tsR aOR cOR),(DN z tsQ aOQ cOQ)]⟩ a w') (17 - 0) ?_ ?_
 ·intro a w' hs;exact⟨n28,0,([]),([]),([]),aH,cH,aC,cC,aP,cP,rfl,Nat.le_refl _,Nat.zero_le _,rfl,rfl,rfl,(by(try dsimp only[Iq,II,Em,Cj,Q4,Nz,TD,G8,GR,Gp,GN,CY,DW,DN,Gn,He,Ez,IB,ED,En,EQ,DC,Fh,Ic,Fp,Bv,Fe,FN,Ew,Es,Eh]at hs ⊢);rw[List.append_nil,List.append_nil,List.append_nil];exact hs)⟩
 rintro m a w' ⟨n67,km,tH,tC,tP,aJ,cJ,aK,cK,aL,cL,rfl,hn66,hkkm,htH,htC,htP,hs⟩
 refine(?_:G Try.prog 247 [(1,pt z),(Bv w2),(4,.slice aOW tsW.length cOW),(8,.slice aOR tsR.length cOR),(9,.slice aOQ tsQ.length cOQ),(Ew XH tH aJ cJ),(Es XC aK tC cK),(Eh XP aL tP cL),(110,Ae km)] [] ⟨w,n67,[(old S0 w),(G8 aC XC cC n0 aK tC cK),(Aq n0 51 3 Af.cells (XC.drop i)),(Gp XP cP aP n0 aL tP cL),(ED XP j n0),(En XP j n0),(GN aH XH cH n0 tH aJ cJ),(Em z f1 f2 f3 f4 aC XC cC XP cP aH XH cH aP),(mid (z+1) w2),(Cj w2 e2),(BN SGW wGW),(CY z tsW aOW cOW),(BN SGR wGR),(BN SGQ wGQ),(DW z tsR aOR cOR),(DN z tsQ aOQ cOQ)]⟩ _ _ _) a w' hs
 clear hs a w'
 refine Bi ?_
 by_cases h68:(km:Int)<17
 ·refine q_c 15 5 [1] [[oT],[o0,o0],[o0,o0,(ov (i6 (-(km:Int)))),o0,o0]] [BT ((km:Int)<17),Wr ((0:Int) - (km:Int)) (-(km:Int))] [(1,pt z),(Bv w2),(4,.slice aOW tsW.length cOW),(8,.slice aOR tsR.length cOR),(9,.slice aOQ tsQ.length cOQ),(Es XC aK tC cK),(Eh XP aL tP cL),(110,Ae km),(17,Ae km),(113,.slice aJ ((XH++tH).length) cJ),(117,.slice (some ⟨n67,0,none⟩) 1 1)] ⟨w,n67+1,[(old S0 w),(G8 aC XC cC n0 aK tC cK),(Aq n0 51 3 Af.cells (XC.drop i)),(Gp XP cP aP n0 aL tP cL),(ED XP j n0),(En XP j n0),(GN aH XH cH n0 tH aJ cJ),(Em z f1 f2 f3 f4 aC XC cC XP cP aH XH cH aP),(mid (z+1) w2),(Cj w2 e2),(BN SGW wGW),(CY z tsW aOW cOW),(BN SGR wGR),(BN SGQ wGQ),(DW z tsR aOR cOR),(DN z tsQ aOQ cOQ),(Xy n67 km)]⟩ rfl ⟨bt,Bq,Ac⟩ ?_
  refine PS n0 6 16 (⟨aH,cH,XH⟩) (XH++tH) [(⟨-(km:Int), -3,0⟩:Ar)] Ar.cells 57 3 24 (.slice aJ ((XH++tH).length) cJ) n67 1 1 #[i6 (-(km:Int)),i6 (-3),i6 0] 57 (0,0) true (some 118) (by simp only[List.length_cons,List.length_nil,List.length_append,KD,KC,KA];omega) (show n0≤n67+1 by omega) (fun ax69 cp70 n71 (hn72:n67+1≤n71) => ?_)
  refine Ey 4 2 [] [[o0],[o0,o0]] [] [(1,pt z),(Bv w2),(4,.slice aOW tsW.length cOW),(8,.slice aOR tsR.length cOR),(9,.slice aOQ tsQ.length cOQ),(Eh XP aL tP cL),(110,Ae km),(17,Ae km),(TC XH km ax69 tH cp70),(119,.slice aK ((XC++tC).length) cK),(120,.slice (some ⟨n71,0,none⟩) 1 1)] ⟨w,n71+1,[(old S0 w),(G8 aC XC cC n0 aK tC cK),(Aq n0 51 3 Af.cells (XC.drop i)),(Gp XP cP aP n0 aL tP cL),(ED XP j n0),(En XP j n0),(XV aH XH cH km n0 ax69 tH cp70),(Em z f1 f2 f3 f4 aC XC cC XP cP aH XH cH aP),(mid (z+1) w2),(Cj w2 e2),(BN SGW wGW),(CY z tsW aOW cOW),(BN SGR wGR),(BN SGQ wGQ),(DW z tsR aOR cOR),(DN z tsQ aOQ cOQ),(Xy n67 km),(bk n71 #[.slice none 0 0] 43)]⟩ rfl Ac ?_
  refine PS n0 1 17 (⟨aC,cC,XC⟩) (XC++tC) [(⟨none,0,[]⟩:Sl Af)] (fun x:Sl Af=>[Sl.val x]) 43 1 24 (.slice aK ((XC++tC).length) cK) n71 1 1 #[.slice none 0 0] 43 (0,0) true (some 121) (by simp only[List.length_cons,List.length_nil,List.length_append,KD,KC,KA];omega) (show n0≤n71+1 by omega) (fun ax73 cp74 n75 (hn76:n71+1≤n75) => ?_)
  refine Ey 3 5 [] [[o0],[o0,o0,(ov (i6 (-(km:Int)))),o0,o0]] [Wr ((0:Int) - (km:Int)) (-(km:Int))] [(1,pt z),(Bv w2),(4,.slice aOW tsW.length cOW),(8,.slice aOR tsR.length cOR),(9,.slice aOQ tsQ.length cOQ),(110,Ae km),(TC XH km ax69 tH cp70),(15,.slice ax73 (((XC++tC)++[(⟨none,0,[]⟩:Sl Af)]).length) cp74),(122,.slice aL ((XP++tP).length) cL),(126,.slice (some ⟨n75,0,none⟩) 1 1)] ⟨w,n75+1,[(old S0 w),(FC n0 43 1 (fun x:Sl Af=>[Sl.val x]) (⟨aC,cC,XC⟩) (.slice ax73 (((XC++tC)++[(⟨none,0,[]⟩:Sl Af)]).length) cp74) ((XC++tC)++[(⟨none,0,[]⟩:Sl Af)])),(Aq n0 51 3 Af.cells (XC.drop i)),(Gp XP cP aP n0 aL tP cL),(ED XP j n0),(En XP j n0),(XV aH XH cH km n0 ax69 tH cp70),(Em z f1 f2 f3 f4 aC XC cC XP cP aH XH cH aP),(mid (z+1) w2),(Cj w2 e2),(BN SGW wGW),(CY z tsW aOW cOW),(BN SGR wGR),(BN SGQ wGQ),(DW z tsR aOR cOR),(DN z tsQ aOQ cOQ),(Xy n67 km),(bk n71 #[.slice none 0 0] 43),(bk n75 #[.string (⟨#[]⟩),i6 (-(km:Int)),i6 0,i6 0,i6 0,i6 0,.slice none 0 0,.slice none 0 0] 47)]⟩ rfl ⟨Bq,Ac⟩ ?_
  refine PS n0 3 18 (⟨aP,cP,XP⟩) (XP++tP) [(⟨⟨#[]⟩, -(km:Int),0,0,0,0,(⟨none,0,[]⟩:Sl Ak),(⟨none,0,[]⟩:Sl Ap)⟩:Ag)] Ag.cells 47 8 104 (.slice aL ((XP++tP).length) cL) n75 1 1 #[.string (⟨#[]⟩),i6 (-(km:Int)),i6 0,i6 0,i6 0,i6 0,.slice none 0 0,.slice none 0 0] 47 (0,0) true (some 127) (by simp only[List.length_cons,List.length_nil,List.length_append,KD,KC,KA];omega) (show n0≤n75+1 by omega) (fun ax77 cp78 n79 (hn80:n75+1≤n79) => ?_)
  refine AC 5 0 [] [[o0],[(ov (i6 ((km+1:Nat):Int))),o0]] [Wr ((km:Int)+1) (((km+1:Nat):Int))] [(1,pt z),(Bv w2),(4,.slice aOW tsW.length cOW),(8,.slice aOR tsR.length cOR),(9,.slice aOQ tsQ.length cOQ),(110,i6 ((km+1:Nat):Int)),(TC XH km ax69 tH cp70),(15,.slice ax73 (((XC++tC)++[(⟨none,0,[]⟩:Sl Af)]).length) cp74),(16,.slice ax77 (((XP++tP)++[(⟨⟨#[]⟩, -(km:Int),0,0,0,0,(⟨none,0,[]⟩:Sl Ak),(⟨none,0,[]⟩:Sl Ap)⟩:Ag)]).length) cp78)] rfl ⟨Bq,Ac⟩ ?_
  refine CG [0,1,2,3,4,5,6,7,8,9,10,11,12,13,14,15] [(old S0 w),(FC n0 43 1 (fun x:Sl Af=>[Sl.val x]) (⟨aC,cC,XC⟩) (.slice ax73 (((XC++tC)++[(⟨none,0,[]⟩:Sl Af)]).length) cp74) ((XC++tC)++[(⟨none,0,[]⟩:Sl Af)])),(Aq n0 51 3 Af.cells (XC.drop i)),(FC n0 47 8 Ag.cells (⟨aP,cP,XP⟩) (.slice ax77 (((XP++tP)++[(⟨⟨#[]⟩, -(km:Int),0,0,0,0,(⟨none,0,[]⟩:Sl Ak),(⟨none,0,[]⟩:Sl Ap)⟩:Ag)]).length) cp78) ((XP++tP)++[(⟨⟨#[]⟩, -(km:Int),0,0,0,0,(⟨none,0,[]⟩:Sl Ak),(⟨none,0,[]⟩:Sl Ap)⟩:Ag)])),(ED XP j n0),(En XP j n0),(XV aH XH cH km n0 ax69 tH cp70),(Em z f1 f2 f3 f4 aC XC cC XP cP aH XH cH aP),(mid (z+1) w2),(Cj w2 e2),(BN SGW wGW),(CY z tsW aOW cOW),(BN SGR wGR),(BN SGQ wGQ),(DW z tsR aOR cOR),(DN z tsQ aOQ cOQ)] rfl rfl ?_
  refine Ce [1,3,4,8,9,14,15,16,110] [(1,pt z),(Bv w2),(4,.slice aOW tsW.length cOW),(8,.slice aOR tsR.length cOR),(9,.slice aOQ tsQ.length cOQ),(TC XH km ax69 tH cp70),(15,.slice ax73 (((XC++tC)++[(⟨none,0,[]⟩:Sl Af)]).length) cp74),(16,.slice ax77 (((XP++tP)++[(⟨⟨#[]⟩, -(km:Int),0,0,0,0,(⟨none,0,[]⟩:Sl Ak),(⟨none,0,[]⟩:Sl Ap)⟩:Ag)]).length) cp78),(110,i6 ((km+1:Nat):Int))] ?_
  refine BB (fun a w' hs=>⟨17 - (km+1),by omega,n79,(km+1),(tH++[(⟨-(km:Int), -3,0⟩:Ar)]),(tC++[(⟨none,0,[]⟩:Sl Af)]),(tP++[(⟨⟨#[]⟩, -(km:Int),0,0,0,0,(⟨none,0,[]⟩:Sl Ak),(⟨none,0,[]⟩:Sl Ap)⟩:Ag)]),ax69,cp70,ax73,cp74,ax77,cp78,rfl,by omega,by omega,by rw[List.length_append,htH];rfl,by rw[List.length_append,htC];rfl,by rw[List.length_append,htP];rfl,(by(try dsimp only[Iq,II,Em,Xy,Cj,XV,Q4,Nz,G8,GR,Gp,GN,CY,DW,DN,Gn,He,Ez,IB,ED,En,EQ,DC,Fh,Ic,Fp,TC,Bv,Fe,FN,Ew,Es,Eh]at hs ⊢);rw[←List.append_assoc,←List.append_assoc,←List.append_assoc];exact hs)⟩)
 refine Aw 13 2 [0] [[oF],[(an 7 7),(an 7 9)]] [BF ((km:Int)<17),Qb z,Qb z,Qb z,Qb z,Qb z,Qb z,Qb z,Qb w2.heap.size,Qb w2.heap.size,Qb w2.heap.size,Qb w2.heap.size,Qb w2.heap.size,Qb w2.heap.size,Qb w2.heap.size] [(Bv w2),(4,.slice aOW tsW.length cOW),(8,.slice aOR tsR.length cOR),(9,.slice aOQ tsQ.length cOQ),(Ew XH tH aJ cJ),(Es XC aK tC cK),(Eh XP aL tP cL),(129,.agg #[i6 f1,i6 f2,i6 f3,i6 f4,.slice aC XC.length cC,.slice aP XP.length cP,.slice aH XH.length cH]),(130,.agg (Am.arr e2))] rfl ⟨bf,rfl,rfl,rfl,rfl,rfl,rfl,rfl,rfl,rfl,rfl,rfl,rfl,rfl,rfl,Ac⟩ ?_
 refine l_call [] [] 29 #[.agg #[i6 f1,i6 f2,i6 f3,i6 f4,.slice aC XC.length cC,.slice aP XP.length cP,.slice aH XH.length cH],.agg (Am.arr e2)] (some 131) Ac ?_
 intro w81 hw81
 have hoX:Am.ok Any w81 (YH f1 f2 f3 f4 aC cC XC aP cP XP aH cH XH):=WV hN (U5 (fun _=>rfl) (hw81.at (i:=1) rfl).2.1 (fun _ _=>trivial)) (U5 (fun _=>rfl) (hw81.at (i:=3) rfl).2.1 (fun _ _=>trivial)) (U5 (fun _=>rfl) (hw81.at (i:=6) rfl).2.1 (fun _ _=>trivial)) (fun q hq=>by replace hq:q<XC.length:=hq;exact(Bf (QM (hw81.at (i:=10) rfl)) (fun _ _=>trivial) (hfzW q (by first | omega | (show _<_;omega))).old)) (fun q hq=>by replace hq:q<XP.length:=hq;exact(Bf (QM (hw81.at (i:=12) rfl)) (fun _ _=>trivial) (hfzR q (by first | omega | (show _<_;omega))).old)) (fun q hq=>by replace hq:q<XP.length:=hq;exact(Bf (QM (hw81.at (i:=13) rfl)) (fun _ _=>trivial) (hfzQ q (by first | omega | (show _<_;omega))).old))
 refine(MO w81 (YH f1 f2 f3 f4 aC cC XC aP cP XP aH cH XH) e2 hoX (ho2.ext (hw81.RJ 8) (fun _ _=>trivial)) hsd.symm).mono ?_
 rintro e w82 ⟨rfl,hkw82⟩
 have hnw82:n67≤w82.heap.size:=AB hw81 hkw82
 refine⟨_,_,rfl,hw81.keeps hkw82, ?_⟩
 refine AC 11 0 [0] [[o0],[o0,o0,o0]] [] [(Bv w2),(4,.slice aOW tsW.length cOW),(8,.slice aOR tsR.length cOR),(9,.slice aOQ tsQ.length cOQ),(Ew XH tH aJ cJ),(Es XC aK tC cK),(Eh XP aL tP cL),(JD tsW),(135,i6 0)] rfl Ac ?_
 refine Bl (fun m a w'=>∃ (n84:Nat) (u:Nat) (aQW:Option Addr) (cQW:Nat),m=XC.length - u∧w82.heap.size≤n84∧(u≤XC.length)∧St 247 [(Bv w2),(4,.slice aQW tsW.length cQW),(8,.slice aOR tsR.length cOR),(9,.slice aOQ tsQ.length cOQ),(Ew XH tH aJ cJ),(Es XC aK tC cK),(Eh XP aL tP cL),(JD tsW),(135,Ae u)] [] ⟨w,n84,[(old S0 w),(G8 aC XC cC n0 aK tC cK),(Aq n0 51 3 Af.cells (XC.drop i)),(Gp XP cP aP n0 aL tP cL),(ED XP j n0),(En XP j n0),(GN aH XH cH n0 tH aJ cJ),(Em z f1 f2 f3 f4 aC XC cC XP cP aH XH cH aP),(mid (z+1) w2),(Cj w2 e2),(BN SGW wGW),(Nu z tsW aQW cQW),(BN SGR wGR),(BN SGQ wGQ),(DW z tsR aOR cOR),(DN z tsQ aOQ cOQ)]⟩ a w') (XC.length - 0) ?_ ?_
 ·intro a w' hs;exact⟨w82.heap.size,0,aOW,cOW,rfl,Nat.le_refl _,Nat.zero_le _,hs⟩
 rintro m a w' ⟨n84,u,aQW,cQW,rfl,hn83,hku,hs⟩
 refine(?_:G Try.prog 247 [(Bv w2),(4,.slice aQW tsW.length cQW),(8,.slice aOR tsR.length cOR),(9,.slice aOQ tsQ.length cOQ),(Ew XH tH aJ cJ),(Es XC aK tC cK),(Eh XP aL tP cL),(JD tsW),(135,Ae u)] [] ⟨w,n84,[(old S0 w),(G8 aC XC cC n0 aK tC cK),(Aq n0 51 3 Af.cells (XC.drop i)),(Gp XP cP aP n0 aL tP cL),(ED XP j n0),(En XP j n0),(GN aH XH cH n0 tH aJ cJ),(Em z f1 f2 f3 f4 aC XC cC XP cP aH XH cH aP),(mid (z+1) w2),(Cj w2 e2),(BN SGW wGW),(Nu z tsW aQW cQW),(BN SGR wGR),(BN SGQ wGQ),(DW z tsR aOR cOR),(DN z tsQ aOQ cOQ)]⟩ _ _ _) a w' hs
 clear hs a w'
 refine Bi ?_
 by_cases h85:(u:Int)<(tsW.length:Int)
 ·refine Aw 14 0 [1] [[oT],[o0,o0]] [BT ((u:Int)<(tsW.length:Int))] [(Bv w2),(4,.slice aQW tsW.length cQW),(8,.slice aOR tsR.length cOR),(9,.slice aOQ tsQ.length cOQ),(Ew XH tH aJ cJ),(Es XC aK tC cK),(Eh XP aL tP cL),(JD tsW),(135,Ae u),(18,Ae u)] rfl ⟨bt,Ac⟩ ?_
  obtain⟨b86,o87,ha88,hF90,hc89⟩:=(ho2.Aj).1.all (show 0<e2.Aj.xs.length by omega)
  replace ha88:e2.Aj.a=some ⟨b86,o87,none⟩:=ha88
  have hc91:=hc89 u (show u<e2.Aj.xs.length by omega)
  have he92:=(ho2.Aj).2 u (show u<e2.Aj.xs.length by omega)
  obtain⟨y93,hy93⟩:∃ y_,y_=gd e2.Aj.xs u:=⟨_,rfl⟩
  rw[←hy93]at he92 hc91
  have hxey93:=hXS4 u;rw[←hy93]at hxey93;have hxly93:y93.xs.length=(gd XC u).xs.length:=by rw[hxey93]
  have hfew:=hF.ws u (by show u<XC.length;omega);replace hfew:(gd XC u).xs.length≤255:=hfew
  refine Aw 4 0 [] [[o0,(DF 9 b86 o87 e2.Aj),o0,(oi u),(oa [.via 8 (.slice y93.a y93.xs.length y93.cap)]),o0,o0]] [Qb w2.heap.size,Df b86 o87 e2.Aj,BK u,u<e2.Aj.xs.length,BG,∀ w',Ch.holds (mid (z+1) w2) w'→w'.cell? ⟨b86,o87+u,none⟩=some (.slice y93.a y93.xs.length y93.cap)] [(Bv w2),(4,.slice aQW tsW.length cQW),(8,.slice aOR tsR.length cOR),(9,.slice aOQ tsQ.length cOQ),(Ew XH tH aJ cJ),(Es XC aK tC cK),(Eh XP aL tP cL),(JD tsW),(135,Ae u),(18,Ae u),(O8 y93)] rfl ⟨rfl,CZ ha88,rfl,(by omega),rfl,UG hF90 (hc91 0 _ rfl),Ac⟩ ?_
  obtain⟨tW,htW⟩:∃ y_,y_=gd tsW u:=⟨_,rfl⟩;have hfiW:=hfzW u (by omega);rw[←htW]at hfiW;have hflW:tW.xs.length=(gd XC u).xs.length+17:=by rw[hfiW.eq,List.length_append,KD]
  refine Aw 4 0 [] [[o0]] [] [(Bv w2),(4,.slice aQW tsW.length cQW),(8,.slice aOR tsR.length cOR),(9,.slice aOQ tsQ.length cOQ),(Ew XH tH aJ cJ),(Es XC aK tC cK),(Eh XP aL tP cL),(18,Ae u),(O8 y93),(JD tsW),(135,Ae u),(144,i6 0)] rfl Ac ?_
  refine Bl (fun m a w'=>∃ (n95:Nat) (mw:Nat) (aVW:Option Addr) (cVW:Nat),m=17 - mw∧n84≤n95∧(mw≤17)∧St 247 [(Bv w2),(4,.slice aVW tsW.length cVW),(8,.slice aOR tsR.length cOR),(9,.slice aOQ tsQ.length cOQ),(Ew XH tH aJ cJ),(Es XC aK tC cK),(Eh XP aL tP cL),(18,Ae u),(O8 y93),(JD tsW),(135,Ae u),(144,Ae mw)] [] ⟨w,n95,[(old S0 w),(G8 aC XC cC n0 aK tC cK),(Aq n0 51 3 Af.cells (XC.drop i)),(Gp XP cP aP n0 aL tP cL),(ED XP j n0),(En XP j n0),(GN aH XH cH n0 tH aJ cJ),(Em z f1 f2 f3 f4 aC XC cC XP cP aH XH cH aP),(mid (z+1) w2),(Cj w2 e2),(BN SGW wGW),(Au z 43 1 (fun x:Sl Af=>[Sl.val x]) (.slice aVW tsW.length cVW) tsW),(BN SGR wGR),(BN SGQ wGQ),(DW z tsR aOR cOR),(DN z tsQ aOQ cOQ)]⟩ a w') (17 - 0) ?_ ?_
  ·intro a w' hs;exact⟨n84,0,aQW,cQW,rfl,Nat.le_refl _,Nat.zero_le _,hs⟩
  rintro m a w' ⟨n95,mw,aVW,cVW,rfl,hn94,hkmw,hs⟩
  refine(?_:G Try.prog 247 [(Bv w2),(4,.slice aVW tsW.length cVW),(8,.slice aOR tsR.length cOR),(9,.slice aOQ tsQ.length cOQ),(Ew XH tH aJ cJ),(Es XC aK tC cK),(Eh XP aL tP cL),(18,Ae u),(O8 y93),(JD tsW),(135,Ae u),(144,Ae mw)] [] ⟨w,n95,[(old S0 w),(G8 aC XC cC n0 aK tC cK),(Aq n0 51 3 Af.cells (XC.drop i)),(Gp XP cP aP n0 aL tP cL),(ED XP j n0),(En XP j n0),(GN aH XH cH n0 tH aJ cJ),(Em z f1 f2 f3 f4 aC XC cC XP cP aH XH cH aP),(mid (z+1) w2),(Cj w2 e2),(BN SGW wGW),(Au z 43 1 (fun x:Sl Af=>[Sl.val x]) (.slice aVW tsW.length cVW) tsW),(BN SGR wGR),(BN SGQ wGQ),(DW z tsR aOR cOR),(DN z tsQ aOQ cOQ)]⟩ _ _ _) a w' hs
  clear hs a w'
  refine Bi ?_
  by_cases h96:(mw:Int)<17
  ·refine q_c 18 0 [1] [[oT],[o0,o0],[o0,(ov (i6 (-(u:Int)))),o0,(ov (i6 (-(mw:Int)))),o0,o0,(an 3 16)]] [BT ((mw:Int)<17),Wr ((0:Int) - (u:Int)) (-(u:Int)),Wr ((0:Int) - (mw:Int)) (-(mw:Int)),Qb n95,Qb n95,Qb n95] [(Bv w2),(4,.slice aVW tsW.length cVW),(8,.slice aOR tsR.length cOR),(9,.slice aOQ tsQ.length cOQ),(Ew XH tH aJ cJ),(Es XC aK tC cK),(Eh XP aL tP cL),(18,Ae u),(O8 y93),(JD tsW),(135,Ae u),(144,Ae mw),(20,Ae mw),(21,pt n95)] ⟨w,n95+1,[(old S0 w),(G8 aC XC cC n0 aK tC cK),(Aq n0 51 3 Af.cells (XC.drop i)),(Gp XP cP aP n0 aL tP cL),(ED XP j n0),(En XP j n0),(GN aH XH cH n0 tH aJ cJ),(Em z f1 f2 f3 f4 aC XC cC XP cP aH XH cH aP),(mid (z+1) w2),(Cj w2 e2),(BN SGW wGW),(Au z 43 1 (fun x:Sl Af=>[Sl.val x]) (.slice aVW tsW.length cVW) tsW),(BN SGR wGR),(BN SGQ wGQ),(DW z tsR aOR cOR),(DN z tsQ aOQ cOQ),(bk n95 #[i6 (-(u:Int)),i6 (-(mw:Int)),i6 (-1)] 51)]⟩ rfl ⟨bt,Bq,Bq,rfl,rfl,rfl,Ac⟩ ?_
   refine IQ (base:=z) (e:=43) (sz:=1) (cells:=(fun x:Sl Af=>[Sl.val x])) (a:=aVW) (n:=tsW.length) (cap:=cVW) (xs:=tsW) 11 (by omega) (fun b97 hg98 hb99 => ?_)
   subst hg98
   obtain⟨b100,o101,ha102,hF104,hc103⟩:=((⟨hfiW.new,fun _ _=>trivial⟩:Dc Af.cells 3 (fun _ _ _=>True) _ _ _)).1.all (show 0<tW.xs.length by omega)
   replace ha102:tW.a=some ⟨b100,o101,none⟩:=ha102
   have hc105:=hc103 (y93.xs.length+mw) (show y93.xs.length+mw<tW.xs.length by omega)
   have he106:=((⟨hfiW.new,fun _ _=>trivial⟩:Dc Af.cells 3 (fun _ _ _=>True) _ _ _)).2 (y93.xs.length+mw) (show y93.xs.length+mw<tW.xs.length by omega)
   obtain⟨y107,hy107⟩:∃ y_,y_=gd tW.xs (y93.xs.length+mw):=⟨_,rfl⟩
   rw[←hy107]at he106 hc105
   have hpey107:y107=_:=(by rw[hy107,hfiW.eq]:y107=gd ((gd XC u).xs++IE u 17) _).trans (mgW_at (k:=mw) (by omega) (by omega))
   refine D5 11 [0,1,2,3,4,5,6,7,8,9,10,11,12,13,14,15,16] [(old S0 w),(G8 aC XC cC n0 aK tC cK),(Aq n0 51 3 Af.cells (XC.drop i)),(Gp XP cP aP n0 aL tP cL),(ED XP j n0),(En XP j n0),(GN aH XH cH n0 tH aJ cJ),(Em z f1 f2 f3 f4 aC XC cC XP cP aH XH cH aP),(mid (z+1) w2),(Cj w2 e2),(BN SGW wGW),(Ym z b97 tsW cVW),(BN SGR wGR),(BN SGQ wGQ),(DW z tsR aOR cOR),(DN z tsQ aOQ cOQ),(bk n95 #[i6 (-(u:Int)),i6 (-(mw:Int)),i6 (-1)] 51)] rfl rfl ?_
   refine Bz [(0,o0),(1,o0),(2,(oi u)),(3,⟨.auto [.via 11 (.slice tW.a tW.xs.length tW.cap)],some (.slice (some ⟨b100,o101,none⟩) tW.xs.length tW.cap)⟩),(4,o0),(5,o0),(6,(ov (i6 ((y93.xs.length+mw:Nat):Int)))),(7,(oi (y93.xs.length+mw))),(8,(oa [.via 10 (i6 y107.Partition),.via 10 (i6 y107.Cc),.via 10 (i6 y107.Dy)])),(9,(an 3 16)),(10,⟨.seq true,none⟩)] [3,4,8,9,14,15,16,18,19,134,135,144,162] [BK u,u<tsW.length,BG,∀ w',Ch.holds (Ym z b97 tsW cVW) w'→w'.cell? ⟨b97,0+u,none⟩=some (.slice tW.a tW.xs.length tW.cap),Df b100 o101 tW,Wr ((y93.xs.length:Int)+(mw:Int)) (((y93.xs.length+mw:Nat):Int)),(((y93.xs.length+mw:Nat):Int):Int)=((y93.xs.length+mw:Nat):Int),y93.xs.length+mw<tW.xs.length,BG,∀ w',Ch.holds (BN SGW wGW) w'→w'.cell? ⟨b100,o101+((y93.xs.length+mw)*3),none⟩=some (i6 y107.Partition),∀ w',Ch.holds (BN SGW wGW) w'→w'.cell? ⟨b100,o101+((y93.xs.length+mw)*3)+1,none⟩=some (i6 y107.Cc),∀ w',Ch.holds (BN SGW wGW) w'→w'.cell? ⟨b100,o101+((y93.xs.length+mw)*3)+2,none⟩=some (i6 y107.Dy),Qb n95,Qb n95,Qb n95,((y107.Partition:Int)==(-(u:Int):Int)&&((y107.Cc:Int)==(-(mw:Int):Int)&&((y107.Dy:Int)==(-1:Int)&&true)))=true] (Dh 11 0) [(Bv w2),(4,.slice (some ⟨b97,0,none⟩) tsW.length cVW),(8,.slice aOR tsR.length cOR),(9,.slice aOQ tsQ.length cOQ),(Ew XH tH aJ cJ),(Es XC aK tC cK),(Eh XP aL tP cL),(18,Ae u),(O8 y93),(JD tsW),(135,Ae u),(144,Ae mw),(162,.bool false)] ⟨rfl,(by omega),rfl,FU (sz:=1) (j:=u) (k:=0) (fun _=>rfl) (by omega) (by rw[←htW];rfl),CZ ha102,Bq,rfl,(by omega),rfl,MK hF104 (hc105 0 _ rfl),MK hF104 (hc105 1 _ rfl),MK hF104 (hc105 2 _ rfl),rfl,rfl,rfl,(by rw[hpey107];simp),Ac⟩ ?_
   refine C9 ?_
   refine Io 7 0 [0] [[(ov (i6 ((mw+1:Nat):Int))),o0]] [Wr ((mw:Int)+1) (((mw+1:Nat):Int))] [(Bv w2),(4,.slice (some ⟨b97,0,none⟩) tsW.length cVW),(8,.slice aOR tsR.length cOR),(9,.slice aOQ tsQ.length cOQ),(Ew XH tH aJ cJ),(Es XC aK tC cK),(Eh XP aL tP cL),(18,Ae u),(O8 y93),(JD tsW),(135,Ae u),(144,i6 ((mw+1:Nat):Int))] rfl ⟨Bq,Ac⟩ ?_
   refine CG [0,1,2,3,4,5,6,7,8,9,10,11,12,13,14,15] [(old S0 w),(G8 aC XC cC n0 aK tC cK),(Aq n0 51 3 Af.cells (XC.drop i)),(Gp XP cP aP n0 aL tP cL),(ED XP j n0),(En XP j n0),(GN aH XH cH n0 tH aJ cJ),(Em z f1 f2 f3 f4 aC XC cC XP cP aH XH cH aP),(mid (z+1) w2),(Cj w2 e2),(BN SGW wGW),(Ym z b97 tsW cVW),(BN SGR wGR),(BN SGQ wGQ),(DW z tsR aOR cOR),(DN z tsQ aOQ cOQ)] rfl rfl ?_
   refine Ce [3,4,8,9,14,15,16,18,19,134,135,144] [(Bv w2),(4,.slice (some ⟨b97,0,none⟩) tsW.length cVW),(8,.slice aOR tsR.length cOR),(9,.slice aOQ tsQ.length cOQ),(Ew XH tH aJ cJ),(Es XC aK tC cK),(Eh XP aL tP cL),(18,Ae u),(O8 y93),(JD tsW),(135,Ae u),(144,i6 ((mw+1:Nat):Int))] ?_
   refine BB (fun a w' hs=>⟨17 - (mw+1),by omega,(n95+1),(mw+1),(some ⟨b97,0,none⟩),cVW,rfl,by omega,by omega,hs⟩)
  refine Aw 13 0 [0] [[oF],[(ov (i6 ((u+1:Nat):Int))),o0]] [BF ((mw:Int)<17),Wr ((u:Int)+1) (((u+1:Nat):Int))] [(Bv w2),(4,.slice aVW tsW.length cVW),(8,.slice aOR tsR.length cOR),(9,.slice aOQ tsQ.length cOQ),(Ew XH tH aJ cJ),(Es XC aK tC cK),(Eh XP aL tP cL),(JD tsW),(135,i6 ((u+1:Nat):Int))] rfl ⟨bf,Bq,Ac⟩ ?_
  refine BB (fun a w' hs=>⟨XC.length - (u+1),by omega,n95,(u+1),aVW,cVW,rfl,by omega,by omega,hs⟩)
 refine Aw 16 0 [0] [[oF],[o0,o0,o0]] [BF ((u:Int)<(tsW.length:Int))] [(Bv w2),(8,.slice aOR tsR.length cOR),(9,.slice aOQ tsQ.length cOQ),(Ew XH tH aJ cJ),(Es XC aK tC cK),(Eh XP aL tP cL),(Jl tsR),(167,i6 0)] rfl ⟨bf,Ac⟩ ?_
 refine Bl (fun m a w'=>∃ (n109:Nat) (v:Nat) (aQR:Option Addr) (cQR:Nat) (aQQ:Option Addr) (cQQ:Nat),m=XP.length - v∧n84≤n109∧(v≤XP.length)∧St 247 [(Bv w2),(8,.slice aQR tsR.length cQR),(9,.slice aQQ tsQ.length cQQ),(Ew XH tH aJ cJ),(Es XC aK tC cK),(Eh XP aL tP cL),(Jl tsR),(167,Ae v)] [] ⟨w,n109,[(old S0 w),(G8 aC XC cC n0 aK tC cK),(Aq n0 51 3 Af.cells (XC.drop i)),(Gp XP cP aP n0 aL tP cL),(ED XP j n0),(En XP j n0),(GN aH XH cH n0 tH aJ cJ),(Em z f1 f2 f3 f4 aC XC cC XP cP aH XH cH aP),(mid (z+1) w2),(Cj w2 e2),(BN SGW wGW),(Nu z tsW aQW cQW),(BN SGR wGR),(BN SGQ wGQ),(Au z 44 1 (fun x:Sl Ak=>[Sl.val x]) (.slice aQR tsR.length cQR) tsR),(Au z 45 1 (fun x:Sl Ap=>[Sl.val x]) (.slice aQQ tsQ.length cQQ) tsQ)]⟩ a w') (XP.length - 0) ?_ ?_
 ·intro a w' hs;exact⟨n84,0,aOR,cOR,aOQ,cOQ,rfl,Nat.le_refl _,Nat.zero_le _,hs⟩
 rintro m a w' ⟨n109,v,aQR,cQR,aQQ,cQQ,rfl,hn108,hkv,hs⟩
 refine(?_:G Try.prog 247 [(Bv w2),(8,.slice aQR tsR.length cQR),(9,.slice aQQ tsQ.length cQQ),(Ew XH tH aJ cJ),(Es XC aK tC cK),(Eh XP aL tP cL),(Jl tsR),(167,Ae v)] [] ⟨w,n109,[(old S0 w),(G8 aC XC cC n0 aK tC cK),(Aq n0 51 3 Af.cells (XC.drop i)),(Gp XP cP aP n0 aL tP cL),(ED XP j n0),(En XP j n0),(GN aH XH cH n0 tH aJ cJ),(Em z f1 f2 f3 f4 aC XC cC XP cP aH XH cH aP),(mid (z+1) w2),(Cj w2 e2),(BN SGW wGW),(Nu z tsW aQW cQW),(BN SGR wGR),(BN SGQ wGQ),(Au z 44 1 (fun x:Sl Ak=>[Sl.val x]) (.slice aQR tsR.length cQR) tsR),(Au z 45 1 (fun x:Sl Ap=>[Sl.val x]) (.slice aQQ tsQ.length cQQ) tsQ)]⟩ _ _ _) a w' hs
 clear hs a w'
 refine Bi ?_
 by_cases h110:(v:Int)<(tsR.length:Int)
 ·refine Aw 14 0 [1] [[oT],[o0,o0]] [BT ((v:Int)<(tsR.length:Int))] [(Bv w2),(8,.slice aQR tsR.length cQR),(9,.slice aQQ tsQ.length cQQ),(Ew XH tH aJ cJ),(Es XC aK tC cK),(Eh XP aL tP cL),(Jl tsR),(167,Ae v),(22,Ae v)] rfl ⟨bt,Ac⟩ ?_
  obtain⟨b111,o112,ha113,hF115,hc114⟩:=(ho2.Aa).1.all (show 0<e2.Aa.xs.length by omega)
  replace ha113:e2.Aa.a=some ⟨b111,o112,none⟩:=ha113
  have hc116:=hc114 v (show v<e2.Aa.xs.length by omega)
  have he117:=(ho2.Aa).2 v (show v<e2.Aa.xs.length by omega)
  obtain⟨y118,hy118⟩:∃ y_,y_=gd e2.Aa.xs v:=⟨_,rfl⟩
  rw[←hy118]at he117 hc116
  have hxey118:=Um (hXS5 v);rw[←hy118]at hxey118;have hxly118:y118.Ad.xs.length=(gd XP v).Ad.xs.length:=by rw[hxey118.2.2.2.2.2.2.1]
  have hxmy118:y118.Ai.xs.length=(gd XP v).Ai.xs.length:=by rw[hxey118.2.2.2.2.2.2.2]
  have hfr:=hF.rs v (by show v<XP.length;omega);replace hfr:(gd XP v).Ad.xs.length≤255:=hfr;have hfq:=hF.qs v (by show v<XP.length;omega);replace hfq:(gd XP v).Ai.xs.length≤255:=hfq
  refine Aw 8 0 [] [[o0,(DF 9 b111 o112 e2.Aa),o0,(oi v),o0,(oa [.via 8 (.slice y118.Ad.a y118.Ad.xs.length y118.Ad.cap)]),o0,o0],[o0,(DF 9 b111 o112 e2.Aa),o0,(oi v),o0,(oa [.via 8 (.slice y118.Ai.a y118.Ai.xs.length y118.Ai.cap)]),o0,o0]] [Qb w2.heap.size,Df b111 o112 e2.Aa,BK v,v<e2.Aa.xs.length,BG,∀ w',Ch.holds (mid (z+1) w2) w'→w'.cell? ⟨b111,o112+v*8+6,none⟩=some (.slice y118.Ad.a y118.Ad.xs.length y118.Ad.cap),Qb w2.heap.size,Df b111 o112 e2.Aa,BK v,v<e2.Aa.xs.length,BG,∀ w',Ch.holds (mid (z+1) w2) w'→w'.cell? ⟨b111,o112+v*8+7,none⟩=some (.slice y118.Ai.a y118.Ai.xs.length y118.Ai.cap)] [(Bv w2),(8,.slice aQR tsR.length cQR),(9,.slice aQQ tsQ.length cQQ),(Ew XH tH aJ cJ),(Es XC aK tC cK),(Eh XP aL tP cL),(Jl tsR),(167,Ae v),(22,Ae v),(OM y118),(O6 y118)] rfl ⟨rfl,CZ ha113,rfl,(by omega),rfl,UG hF115 (hc116 6 _ rfl),rfl,CZ ha113,rfl,(by omega),rfl,UG hF115 (hc116 7 _ rfl),Ac⟩ ?_
  obtain⟨tR,htR⟩:∃ y_,y_=gd tsR v:=⟨_,rfl⟩;have hfiR:=hfzR v (by omega);rw[←htR]at hfiR;have hflR:tR.xs.length=(gd XP v).Ad.xs.length+17:=by rw[hfiR.eq,List.length_append,KC]
  obtain⟨tQ,htQ⟩:∃ y_,y_=gd tsQ v:=⟨_,rfl⟩;have hfiQ:=hfzQ v (by omega);rw[←htQ]at hfiQ;have hflQ:tQ.xs.length=(gd XP v).Ai.xs.length+17:=by rw[hfiQ.eq,List.length_append,KA]
  refine Aw 4 0 [] [[o0]] [] [(Bv w2),(8,.slice aQR tsR.length cQR),(9,.slice aQQ tsQ.length cQQ),(Ew XH tH aJ cJ),(Es XC aK tC cK),(Eh XP aL tP cL),(22,Ae v),(OM y118),(O6 y118),(Jl tsR),(167,Ae v),(184,i6 0)] rfl Ac ?_
  refine Bl (fun m a w'=>∃ (n120:Nat) (m2:Nat) (aVR:Option Addr) (cVR:Nat) (aVQ:Option Addr) (cVQ:Nat),m=17 - m2∧n109≤n120∧(m2≤17)∧St 247 [(Bv w2),(8,.slice aVR tsR.length cVR),(9,.slice aVQ tsQ.length cVQ),(Ew XH tH aJ cJ),(Es XC aK tC cK),(Eh XP aL tP cL),(22,Ae v),(OM y118),(O6 y118),(Jl tsR),(167,Ae v),(184,Ae m2)] [] ⟨w,n120,[(old S0 w),(G8 aC XC cC n0 aK tC cK),(Aq n0 51 3 Af.cells (XC.drop i)),(Gp XP cP aP n0 aL tP cL),(ED XP j n0),(En XP j n0),(GN aH XH cH n0 tH aJ cJ),(Em z f1 f2 f3 f4 aC XC cC XP cP aH XH cH aP),(mid (z+1) w2),(Cj w2 e2),(BN SGW wGW),(Nu z tsW aQW cQW),(BN SGR wGR),(BN SGQ wGQ),(Au z 44 1 (fun x:Sl Ak=>[Sl.val x]) (.slice aVR tsR.length cVR) tsR),(Au z 45 1 (fun x:Sl Ap=>[Sl.val x]) (.slice aVQ tsQ.length cVQ) tsQ)]⟩ a w') (17 - 0) ?_ ?_
  ·intro a w' hs;exact⟨n109,0,aQR,cQR,aQQ,cQQ,rfl,Nat.le_refl _,Nat.zero_le _,hs⟩
  rintro m a w' ⟨n120,m2,aVR,cVR,aVQ,cVQ,rfl,hn119,hkm2,hs⟩
  refine(?_:G Try.prog 247 [(Bv w2),(8,.slice aVR tsR.length cVR),(9,.slice aVQ tsQ.length cVQ),(Ew XH tH aJ cJ),(Es XC aK tC cK),(Eh XP aL tP cL),(22,Ae v),(OM y118),(O6 y118),(Jl tsR),(167,Ae v),(184,Ae m2)] [] ⟨w,n120,[(old S0 w),(G8 aC XC cC n0 aK tC cK),(Aq n0 51 3 Af.cells (XC.drop i)),(Gp XP cP aP n0 aL tP cL),(ED XP j n0),(En XP j n0),(GN aH XH cH n0 tH aJ cJ),(Em z f1 f2 f3 f4 aC XC cC XP cP aH XH cH aP),(mid (z+1) w2),(Cj w2 e2),(BN SGW wGW),(Nu z tsW aQW cQW),(BN SGR wGR),(BN SGQ wGQ),(Au z 44 1 (fun x:Sl Ak=>[Sl.val x]) (.slice aVR tsR.length cVR) tsR),(Au z 45 1 (fun x:Sl Ap=>[Sl.val x]) (.slice aVQ tsQ.length cVQ) tsQ)]⟩ _ _ _) a w' hs
  clear hs a w'
  refine Bi ?_
  by_cases h121:(m2:Int)<17
  ·refine q_c 18 0 [1] [[oT],[o0,o0],[o0,(ov (i6 (-(v:Int)))),o0,(ov (i6 (-(m2:Int)))),o0,o0,(an 4 16)]] [BT ((m2:Int)<17),Wr ((0:Int) - (v:Int)) (-(v:Int)),Wr ((0:Int) - (m2:Int)) (-(m2:Int)),Qb n120,Qb n120,Qb n120,Qb n120] [(Bv w2),(8,.slice aVR tsR.length cVR),(9,.slice aVQ tsQ.length cVQ),(Ew XH tH aJ cJ),(Es XC aK tC cK),(Eh XP aL tP cL),(22,Ae v),(OM y118),(O6 y118),(Jl tsR),(167,Ae v),(184,Ae m2),(25,Ae m2),(26,pt n120)] ⟨w,n120+1,[(old S0 w),(G8 aC XC cC n0 aK tC cK),(Aq n0 51 3 Af.cells (XC.drop i)),(Gp XP cP aP n0 aL tP cL),(ED XP j n0),(En XP j n0),(GN aH XH cH n0 tH aJ cJ),(Em z f1 f2 f3 f4 aC XC cC XP cP aH XH cH aP),(mid (z+1) w2),(Cj w2 e2),(BN SGW wGW),(Nu z tsW aQW cQW),(BN SGR wGR),(BN SGQ wGQ),(Au z 44 1 (fun x:Sl Ak=>[Sl.val x]) (.slice aVR tsR.length cVR) tsR),(Au z 45 1 (fun x:Sl Ap=>[Sl.val x]) (.slice aVQ tsQ.length cVQ) tsQ),(qn0m_3 n120 v m2)]⟩ rfl ⟨bt,Bq,Bq,rfl,rfl,rfl,rfl,Ac⟩ ?_
   refine IQ (base:=z) (e:=44) (sz:=1) (cells:=(fun x:Sl Ak=>[Sl.val x])) (a:=aVR) (n:=tsR.length) (cap:=cVR) (xs:=tsR) 14 (by omega) (fun b122 hg123 hb124 => ?_)
   subst hg123
   obtain⟨b125,o126,ha127,hF129,hc128⟩:=((⟨hfiR.new,fun _ _=>trivial⟩:Dc Ak.cells 4 (fun _ _ _=>True) _ _ _)).1.all (show 0<tR.xs.length by omega)
   replace ha127:tR.a=some ⟨b125,o126,none⟩:=ha127
   have hc130:=hc128 (y118.Ad.xs.length+m2) (show y118.Ad.xs.length+m2<tR.xs.length by omega)
   have he131:=((⟨hfiR.new,fun _ _=>trivial⟩:Dc Ak.cells 4 (fun _ _ _=>True) _ _ _)).2 (y118.Ad.xs.length+m2) (show y118.Ad.xs.length+m2<tR.xs.length by omega)
   obtain⟨y132,hy132⟩:∃ y_,y_=gd tR.xs (y118.Ad.xs.length+m2):=⟨_,rfl⟩
   rw[←hy132]at he131 hc130
   have hpey132:y132=_:=(by rw[hy132,hfiR.eq]:y132=gd ((gd XP v).Ad.xs++IK v 17) _).trans (mgR_at (k:=m2) (by omega) (by omega))
   refine IQ (base:=z) (e:=45) (sz:=1) (cells:=(fun x:Sl Ap=>[Sl.val x])) (a:=aVQ) (n:=tsQ.length) (cap:=cVQ) (xs:=tsQ) 15 (by omega) (fun b133 hg134 hb135 => ?_)
   subst hg134
   obtain⟨b136,o137,ha138,hF140,hc139⟩:=((⟨hfiQ.new,fun _ _=>trivial⟩:Dc Ap.cells 2 (fun _ _ _=>True) _ _ _)).1.all (show 0<tQ.xs.length by omega)
   replace ha138:tQ.a=some ⟨b136,o137,none⟩:=ha138
   have hc141:=hc139 (y118.Ai.xs.length+m2) (show y118.Ai.xs.length+m2<tQ.xs.length by omega)
   have he142:=((⟨hfiQ.new,fun _ _=>trivial⟩:Dc Ap.cells 2 (fun _ _ _=>True) _ _ _)).2 (y118.Ai.xs.length+m2) (show y118.Ai.xs.length+m2<tQ.xs.length by omega)
   obtain⟨y143,hy143⟩:∃ y_,y_=gd tQ.xs (y118.Ai.xs.length+m2):=⟨_,rfl⟩
   rw[←hy143]at he142 hc141
   have hpey143:y143=_:=(by rw[hy143,hfiQ.eq]:y143=gd ((gd XP v).Ai.xs++IG v 17) _).trans (mgQ_at (k:=m2) (by omega) (by omega))
   have hpcy143:y143.Channel = -100*(v:Int) - (m2:Int):=by rw[hpey143]
   refine D5 28 [0,1,2,3,4,5,6,7,8,9,10,11,12,13,14,15,16] [(old S0 w),(G8 aC XC cC n0 aK tC cK),(Aq n0 51 3 Af.cells (XC.drop i)),(Gp XP cP aP n0 aL tP cL),(ED XP j n0),(En XP j n0),(GN aH XH cH n0 tH aJ cJ),(Em z f1 f2 f3 f4 aC XC cC XP cP aH XH cH aP),(mid (z+1) w2),(Cj w2 e2),(BN SGW wGW),(Nu z tsW aQW cQW),(BN SGR wGR),(BN SGQ wGQ),(YE z b122 tsR cVR),(Y0 z b133 tsQ cVQ),(qn0m_3 n120 v m2)] rfl rfl ?_
   refine Bz [(0,o0),(1,o0),(2,(oi v)),(3,⟨.auto [.via 14 (.slice tR.a tR.xs.length tR.cap)],some (.slice (some ⟨b125,o126,none⟩) tR.xs.length tR.cap)⟩),(4,o0),(5,o0),(6,(ov (i6 ((y118.Ad.xs.length+m2:Nat):Int)))),(7,(oi (y118.Ad.xs.length+m2))),(8,(oa [.via 12 (i6 y132.Ed),.via 12 (i6 y132.Dz),.via 12 (i6 y132.Frame),.via 12 (i6 y132.CX)])),(9,(an 4 16)),(10,⟨.seq true,none⟩),(11,o0),(12,o0),(13,o0),(14,(oi v)),(15,⟨.auto [.via 15 (.slice tQ.a tQ.xs.length tQ.cap)],some (.slice (some ⟨b136,o137,none⟩) tQ.xs.length tQ.cap)⟩),(16,o0),(17,o0),(18,(ov (i6 ((y118.Ai.xs.length+m2:Nat):Int)))),(19,(oi (y118.Ai.xs.length+m2))),(20,o0),(21,(oa [.via 13 (i6 y143.Channel)])),(22,o0),(23,(ov (i6 ((-100)*(v:Int))))),(24,o0),(25,(ov (i6 (((-100)*(v:Int)) - (m2:Int))))),(26,oF),(27,o0)] [3,8,9,14,15,16,22,23,24,166,167,184,219] [BK v,v<tsR.length,BG,∀ w',Ch.holds (YE z b122 tsR cVR) w'→w'.cell? ⟨b122,0+v,none⟩=some (.slice tR.a tR.xs.length tR.cap),Df b125 o126 tR,Wr ((y118.Ad.xs.length:Int)+(m2:Int)) (((y118.Ad.xs.length+m2:Nat):Int)),(((y118.Ad.xs.length+m2:Nat):Int):Int)=((y118.Ad.xs.length+m2:Nat):Int),y118.Ad.xs.length+m2<tR.xs.length,BG,∀ w',Ch.holds (BN SGR wGR) w'→w'.cell? ⟨b125,o126+((y118.Ad.xs.length+m2)*4),none⟩=some (i6 y132.Ed),∀ w',Ch.holds (BN SGR wGR) w'→w'.cell? ⟨b125,o126+((y118.Ad.xs.length+m2)*4)+1,none⟩=some (i6 y132.Dz),∀ w',Ch.holds (BN SGR wGR) w'→w'.cell? ⟨b125,o126+((y118.Ad.xs.length+m2)*4)+2,none⟩=some (i6 y132.Frame),∀ w',Ch.holds (BN SGR wGR) w'→w'.cell? ⟨b125,o126+((y118.Ad.xs.length+m2)*4)+3,none⟩=some (i6 y132.CX),Qb n120,Qb n120,Qb n120,Qb n120,((y132.Ed:Int)==(-(v:Int):Int)&&((y132.Dz:Int)==(-(m2:Int):Int)&&((y132.Frame:Int)==(-2:Int)&&((y132.CX:Int)==(0:Int)&&true))))=true,BK v,v<tsQ.length,BG,∀ w',Ch.holds (Y0 z b133 tsQ cVQ) w'→w'.cell? ⟨b133,0+v,none⟩=some (.slice tQ.a tQ.xs.length tQ.cap),Df b136 o137 tQ,Wr ((y118.Ai.xs.length:Int)+(m2:Int)) (((y118.Ai.xs.length+m2:Nat):Int)),(((y118.Ai.xs.length+m2:Nat):Int):Int)=((y118.Ai.xs.length+m2:Nat):Int),y118.Ai.xs.length+m2<tQ.xs.length,BG,∀ w',Ch.holds (BN SGQ wGQ) w'→w'.cell? ⟨b136,o137+((y118.Ai.xs.length+m2)*2),none⟩=some (i6 y143.Channel),Wr ((-100:Int)*(v:Int)) ((-100)*(v:Int)),Wr (((-100)*(v:Int):Int) - (m2:Int)) (((-100)*(v:Int)) - (m2:Int)),NF y143.Channel (((-100)*(v:Int)) - (m2:Int))] (Dh 28 0) [(Bv w2),(8,.slice (some ⟨b122,0,none⟩) tsR.length cVR),(9,.slice (some ⟨b133,0,none⟩) tsQ.length cVQ),(Ew XH tH aJ cJ),(Es XC aK tC cK),(Eh XP aL tP cL),(22,Ae v),(OM y118),(O6 y118),(Jl tsR),(167,Ae v),(184,Ae m2),(219,.bool false)] ⟨rfl,(by omega),rfl,FU (sz:=1) (j:=v) (k:=0) (fun _=>rfl) (by omega) (by rw[←htR];rfl),CZ ha127,Bq,rfl,(by omega),rfl,MK hF129 (hc130 0 _ rfl),MK hF129 (hc130 1 _ rfl),MK hF129 (hc130 2 _ rfl),MK hF129 (hc130 3 _ rfl),rfl,rfl,rfl,rfl,(by rw[hpey132];simp),rfl,(by omega),rfl,FU (sz:=1) (j:=v) (k:=0) (fun _=>rfl) (by omega) (by rw[←htQ];rfl),CZ ha138,Bq,rfl,(by omega),rfl,MK hF140 (hc141 0 _ rfl),Bq,Bq,nf,Ac⟩ ?_
   refine C9 ?_
   refine Io 7 0 [0] [[(ov (i6 ((m2+1:Nat):Int))),o0]] [Wr ((m2:Int)+1) (((m2+1:Nat):Int))] [(Bv w2),(8,.slice (some ⟨b122,0,none⟩) tsR.length cVR),(9,.slice (some ⟨b133,0,none⟩) tsQ.length cVQ),(Ew XH tH aJ cJ),(Es XC aK tC cK),(Eh XP aL tP cL),(22,Ae v),(OM y118),(O6 y118),(Jl tsR),(167,Ae v),(184,i6 ((m2+1:Nat):Int))] rfl ⟨Bq,Ac⟩ ?_
   refine CG [0,1,2,3,4,5,6,7,8,9,10,11,12,13,14,15] [(old S0 w),(G8 aC XC cC n0 aK tC cK),(Aq n0 51 3 Af.cells (XC.drop i)),(Gp XP cP aP n0 aL tP cL),(ED XP j n0),(En XP j n0),(GN aH XH cH n0 tH aJ cJ),(Em z f1 f2 f3 f4 aC XC cC XP cP aH XH cH aP),(mid (z+1) w2),(Cj w2 e2),(BN SGW wGW),(Nu z tsW aQW cQW),(BN SGR wGR),(BN SGQ wGQ),(YE z b122 tsR cVR),(Y0 z b133 tsQ cVQ)] rfl rfl ?_
   refine Ce [3,8,9,14,15,16,22,23,24,166,167,184] [(Bv w2),(8,.slice (some ⟨b122,0,none⟩) tsR.length cVR),(9,.slice (some ⟨b133,0,none⟩) tsQ.length cVQ),(Ew XH tH aJ cJ),(Es XC aK tC cK),(Eh XP aL tP cL),(22,Ae v),(OM y118),(O6 y118),(Jl tsR),(167,Ae v),(184,i6 ((m2+1:Nat):Int))] ?_
   refine BB (fun a w' hs=>⟨17 - (m2+1),by omega,(n120+1),(m2+1),(some ⟨b122,0,none⟩),cVR,(some ⟨b133,0,none⟩),cVQ,rfl,by omega,by omega,hs⟩)
  refine Aw 13 0 [0] [[oF],[(ov (i6 ((v+1:Nat):Int))),o0]] [BF ((m2:Int)<17),Wr ((v:Int)+1) (((v+1:Nat):Int))] [(Bv w2),(8,.slice aVR tsR.length cVR),(9,.slice aVQ tsQ.length cVQ),(Ew XH tH aJ cJ),(Es XC aK tC cK),(Eh XP aL tP cL),(Jl tsR),(167,i6 ((v+1:Nat):Int))] rfl ⟨bf,Bq,Ac⟩ ?_
  refine BB (fun a w' hs=>⟨XP.length - (v+1),by omega,n120,(v+1),aVR,cVR,aVQ,cVQ,rfl,by omega,by omega,hs⟩)
 refine Aw 11 0 [0] [[oF]] [BF ((v:Int)<(tsR.length:Int))] [(Bv w2),(8,.slice aQR tsR.length cQR),(9,.slice aQQ tsQ.length cQQ),(Ew XH tH aJ cJ),(Es XC aK tC cK),(Eh XP aL tP cL),(Jl tsR),(167,Ae v),(168,.bool false)] rfl ⟨bf,Ac⟩ ?_
 have hL1:(XH++tH).length=e2.Ah.xs.length+17:=by rw[List.length_append];omega
 have hL2:(XC++tC).length=e2.Aj.xs.length+17:=by rw[List.length_append];omega
 have hL3:(XP++tP).length=e2.Aa.xs.length+17:=by rw[List.length_append];omega
 refine Aw 4 0 [] [[o0,o0,o0,(a1 9),o0,(ov (i6 ((e2.Ah.xs.length+17:Nat):Int))),oT,o0,o0,o0,o0,(a1 9),o0,(ov (i6 ((e2.Aj.xs.length+17:Nat):Int))),oT,o0,o0,o0,o0,o0,(a1 9),o0,(ov (i6 ((e2.Aa.xs.length+17:Nat):Int))),oT,o0,o0]] [Qb w2.heap.size,Wr ((e2.Ah.xs.length:Int)+17) (((e2.Ah.xs.length+17:Nat):Int)),ET (((XH++tH).length:Nat):Int) ((e2.Ah.xs.length+17:Nat):Int),Qb w2.heap.size,Wr ((e2.Aj.xs.length:Int)+17) (((e2.Aj.xs.length+17:Nat):Int)),ET (((XC++tC).length:Nat):Int) ((e2.Aj.xs.length+17:Nat):Int),Qb w2.heap.size,Wr ((e2.Aa.xs.length:Int)+17) (((e2.Aa.xs.length+17:Nat):Int)),ET (((XP++tP).length:Nat):Int) ((e2.Aa.xs.length+17:Nat):Int)] [(2,.bool true)] rfl ⟨rfl,Bq,et,rfl,Bq,et,rfl,Bq,et,Ac⟩ ?_
 refine AU [] [] (.bool true) Ac ?_
 intro w144 hw144
 exact⟨rfl,A7 hw144⟩
theorem slat_sub{α:Type}{cells:α→List Value}{sz:Nat}{F:Nat→Prop}{W:World}{a:Option Addr}{cap:Nat}{xs ys:List α}(h:BD cells sz F W ⟨a,cap,xs⟩)(hl:ys.length≤xs.length)(he:∀ i (h1:i<ys.length) (h2:i<xs.length),cells ys[i]=cells xs[i]):BD cells sz F W ⟨a,cap,ys⟩:=by
 refine⟨Nat.le_trans hl h.len,Nat.le_trans hl h.le,fun hne => ?_⟩
 have hne':xs≠[]:=fun e=>hne (List.eq_nil_of_length_eq_zero (by rw[e]at hl;simpa using hl))
 obtain⟨b,off,h1,h2,h3⟩:=h.cells hne'
 refine⟨b,off,h1,h2,fun i hi k v hv => ?_⟩
 have hi':i<xs.length:=Nat.lt_of_lt_of_le hi hl
 exact h3 i hi' k v (by rw[←he i hi hi'];exact hv)
theorem PH{α:Type}{cells:α→List Value}{sz:Nat}{F:Nat→Prop}{W:World}{a:Option Addr}{cap cap2:Nat}{xs:List α}(h:BD cells sz F W ⟨a,cap,xs⟩)(hc:xs.length≤cap2):BD cells sz F W ⟨a,cap2,xs⟩:=⟨h.len,hc,h.cells⟩
theorem SK{α:Type}{mk:Nat→α}{n:Nat}{xs:List α}(h:n≤xs.length):(BU mk n xs).take n=(List.range n).map mk:=by
 unfold BU
 have:((List.range n).map mk).length=n:=by simp
 conv=>lhs;rw[←this]
 simp
def bC(XC:List (Sl Af))(q:Nat):Nat:=1000+sm (fun q=>(gd XC q).xs.length) q
def bP(XC:List (Sl Af))(nC:Nat)(XP:List Ag)(q:Nat):Nat:=1000+sm (fun q=>(gd XC q).xs.length) nC+sm (fun q=>(gd XP q).Ad.xs.length+(gd XP q).Ai.xs.length) q
def wM(XC:List (Sl Af))(q:Nat):Sl Af:=⟨(gd XC q).a,(gd XC q).cap,(List.range (gd XC q).xs.length).map (RF (bC XC q))⟩
def rM(XC:List (Sl Af))(nC:Nat)(XP:List Ag)(q:Nat):Sl Ak:=⟨(gd XP q).Ad.a,(gd XP q).Ad.cap,(List.range (gd XP q).Ad.xs.length).map (Pz (bP XC nC XP q))⟩
def qM(XC:List (Sl Af))(nC:Nat)(XP:List Ag)(q:Nat):Sl Ap:=⟨(gd XP q).Ai.a,(gd XP q).Ai.cap,(List.range (gd XP q).Ai.xs.length).map (Qz (bP XC nC XP q+(gd XP q).Ad.xs.length))⟩
def pM(XC:List (Sl Af))(nC:Nat)(XP:List Ag)(q:Nat):Ag:={ gd XP q with Ad:=rM XC nC XP q,Ai:=qM XC nC XP q }
def Kq(f1 f2 f3 f4:Int)(aC:Option Addr)(nC c1:Nat)(XC:List (Sl Af))(aP:Option Addr)(nP c2:Nat)(XP:List Ag)(aH:Option Addr)(nH c3:Nat):Am:=⟨f1,f2,f3,f4,⟨aC,c1,(List.range nC).map (wM XC)⟩,⟨aP,c2,(List.range nP).map (pM XC nC XP)⟩,⟨aH,c3,(List.range nH).map (NC (bP XC nC XP nP))⟩⟩
structure PsNum(XP:List Ag)(nP:Nat):Prop where
 ps:∀ q,q<nP→(gd XP q).Name.size≤140737488351232∧FV .i64 (gd XP q).Entry∧FV .i64 (gd XP q).AP∧FV .i64 (gd XP q).AA∧FV .i64 (gd XP q).AQ∧FV .i64 (gd XP q).AL
section
variable {f1 f2 f3 f4:Int}{aC aP aH:Option Addr}{nC c1 nP c2 nH c3:Nat}{XC:List (Sl Af)}{XP:List Ag}
theorem Yy:Am.arr (Kq f1 f2 f3 f4 aC nC c1 XC aP nP c2 XP aH nH c3) = #[.int .i64 f1,.int .i64 f2,.int .i64 f3,.int .i64 f4,.slice aC nC c1,.slice aP nP c2,.slice aH nH c3]:=by
 simp only[Kq,Am.arr,List.length_map,List.length_range]
theorem mkD_num(hf:FV .i64 f1∧FV .i64 f2∧FV .i64 f3∧FV .i64 f4)(hp:PsNum XP nP)(hb:1000+sm (fun q=>(gd XC q).xs.length) nC+sm (fun q=>(gd XP q).Ad.xs.length+(gd XP q).Ai.xs.length) nP+nH≤9000000000000000000):Nw (Kq f1 f2 f3 f4 aC nC c1 XC aP nP c2 XP aH nH c3):=by
 have ik:∀ {n:Nat},n≤9000000000000000000→FV .i64 (n:Int):=fun{n} h=>U8 (by omega) (by omega)
 have gC:∀ {q},q<nC→gd ((List.range nC).map (wM XC)) q=wM XC q:=fun h=>JR h
 have gP:∀ {q},q<nP→gd ((List.range nP).map (pM XC nC XP)) q=pM XC nC XP q:=fun h=>JR h
 refine⟨hf,fun i hi k hk F W => ?_,fun i hi => ?_,fun i hi k hk F W => ?_,fun i hi k hk F W => ?_,fun k hk F W => ?_⟩
 ·have hi':i<nC:=by simpa[Kq]using hi
  show Af.ok F W (gd (gd ((List.range nC).map (wM XC)) i).xs k)
  have hk':k<(gd XC i).xs.length:=by have h:=hk;simp only[Kq,gC hi',wM,List.length_map,List.length_range]at h;exact h
  rw[gC hi'];show Af.ok F W (gd ((List.range _).map _) k);rw[JR hk']
  have h1:=sm_at (fun q=>(gd XC q).xs.length) hi'
  have:=ik (n:=bC XC i+k+1) (by unfold bC;omega)
  exact⟨this,this,this⟩
 ·have hi':i<nP:=by simpa[Kq]using hi
  show(gd ((List.range nP).map (pM XC nC XP)) i).Name.size≤_∧_
  rw[show gd (Kq f1 f2 f3 f4 aC nC c1 XC aP nP c2 XP aH nH c3).Aa.xs i=pM XC nC XP i from gP hi',gP hi'];exact hp.ps i hi'
 ·have hi':i<nP:=by simpa[Kq]using hi
  have e:gd (Kq f1 f2 f3 f4 aC nC c1 XC aP nP c2 XP aH nH c3).Aa.xs i=pM XC nC XP i:=gP hi'
  rw[e]at hk ⊢
  have hk':k<(gd XP i).Ad.xs.length:=by have h:=hk;simp only[pM,rM,List.length_map,List.length_range]at h;exact h
  show Ak.ok F W (gd ((List.range _).map _) k);rw[JR hk']
  have h1:=sm_at (fun q=>(gd XP q).Ad.xs.length+(gd XP q).Ai.xs.length) hi'
  have:=ik (n:=bP XC nC XP i+k+1) (by unfold bP;omega)
  exact⟨this,this,this,this⟩
 ·have hi':i<nP:=by simpa[Kq]using hi
  have e:gd (Kq f1 f2 f3 f4 aC nC c1 XC aP nP c2 XP aH nH c3).Aa.xs i=pM XC nC XP i:=gP hi'
  rw[e]at hk ⊢
  have hk':k<(gd XP i).Ai.xs.length:=by have h:=hk;simp only[pM,qM,List.length_map,List.length_range]at h;exact h
  show Ap.ok F W (gd ((List.range _).map _) k);rw[JR hk']
  have h1:=sm_at (fun q=>(gd XP q).Ad.xs.length+(gd XP q).Ai.xs.length) hi'
  have:=ik (n:=bP XC nC XP i+(gd XP i).Ad.xs.length+k+1) (by unfold bP;omega)
  exact⟨this,Ac⟩
 have hk':k<nH:=by simpa[Kq]using hk
 show Ar.ok F W (gd ((List.range _).map _) k);rw[JR hk']
 have:=ik (n:=bP XC nC XP nP+k+1) (by unfold bP;omega)
 exact⟨this,this,this⟩
theorem mkD_ok{n0 cC cP cH:Nat}{ws ws':List (Sl Af)}{rs rs':List (Sl Ak)}{qs qs':List (Sl Ap)}{XH:List Ar}{W w0:World}{m:Nat}(hN:Nw (Kq f1 f2 f3 f4 aC nC c1 XC aP nP c2 XP aH nH c3))(hs:Sat ⟨w0,m,Qe n0 aC cC XC ws' aP cP XP rs' qs' aH cH (BU (NC (bP XC nC XP nP)) nH XH)⟩ W)
   (hW:Q9 nC (gd XC) ws) (hR:Q9 nP (fun q=>(gd XP q).Ad) rs) (hQ:Q9 nP (fun q=>(gd XP q).Ai) qs) (mW:Jz (gd XC) RF (bC XC) nC ws ws') (mR:Jz (fun q=>(gd XP q).Ad) Pz (bP XC nC XP) nP rs rs') (mQ:Jz (fun q=>(gd XP q).Ai) Qz (fun q=>bP XC nC XP q+(gd XP q).Ad.xs.length) nP qs qs')
   (h1:nC≤XC.length) (h2:nP≤XP.length) (h3:nH≤XH.length) (hc:nC≤c1∧nP≤c2∧nH≤c3) (hcw:∀ q,q<nC→(gd XC q).xs.length≤(gd XC q).cap) (hcr:∀ q,q<nP→(gd XP q).Ad.xs.length≤(gd XP q).Ad.cap∧(gd XP q).Ai.xs.length≤(gd XP q).Ai.cap)
   (hl:XC.length≤140737488351232∧XP.length≤140737488351232∧XH.length≤140737488351232) (hlw:∀ q,q<nC→(gd ws q).xs.length≤140737488351232) (hlr:∀ q,q<nP→(gd rs q).xs.length≤140737488351232∧(gd qs q).xs.length≤140737488351232):Am.ok Any W (Kq f1 f2 f3 f4 aC nC c1 XC aP nP c2 XP aH nH c3):=by
 have r1:W.ownsRow n0 43 1 (.slice aC XC.length cC) XC.length (XC.flatMap (fun x:Sl Af=>[Sl.val x])):=hs.at (i:=0) rfl
 have r2:(Aq n0 51 3 Af.cells ws').holds W:=hs.at (i:=1) rfl
 have r3:W.ownsRow n0 47 8 (.slice aP XP.length cP) XP.length (XP.flatMap Ag.cells):=hs.at (i:=2) rfl
 have r4:(Aq n0 53 4 Ak.cells rs').holds W:=hs.at (i:=3) rfl
 have r5:(Aq n0 55 2 Ap.cells qs').holds W:=hs.at (i:=4) rfl
 have hml:(BU (NC (bP XC nC XP nP)) nH XH).length=XH.length:=Dw h3
 have r6:W.ownsRow n0 57 3 (.slice aH (BU (NC (bP XC nC XP nP)) nH XH).length cH) (BU (NC (bP XC nC XP nP)) nH XH).length ((BU (NC (bP XC nC XP nP)) nH XH).flatMap Ar.cells):=hs.at (i:=5) rfl
 have s1:BD (fun x:Sl Af=>[Sl.val x]) 1 Any W ⟨aC,cC,XC⟩:=Jp (fun _=>rfl) r1 hl.1 (fun _ _=>trivial)
 have s3:BD Ag.cells 8 Any W ⟨aP,cP,XP⟩:=Jp (fun _=>rfl) r3 hl.2.1 (fun _ _=>trivial)
 have s6:BD Ar.cells 3 Any W ⟨aH,cH,BU (NC (bP XC nC XP nP)) nH XH⟩:=Jp (fun _=>rfl) r6 (by rw[hml];exact hl.2.2) (fun _ _=>trivial)
 have gC:∀ {q},q<nC→gd ((List.range nC).map (wM XC)) q=wM XC q:=fun h=>JR h
 have gP:∀ {q},q<nP→gd ((List.range nP).map (pM XC nC XP)) q=pM XC nC XP q:=fun h=>JR h
 refine WV hN (PH (slat_sub s1 (by simpa using h1) (fun i i1 i2 => ?_)) (by simpa using hc.1)) (PH (slat_sub s3 (by simpa using h2) (fun i i1 i2 => ?_)) (by simpa using hc.2.1)) (PH (cap:=cH - 0) ?_ (by simpa using hc.2.2)) (fun i hi => ?_) (fun i hi => ?_) (fun i hi => ?_)
 · simp only[List.getElem_map,List.getElem_range]
   show[Value.slice (gd XC i).a ((List.range _).map _).length (gd XC i).cap]=[Sl.val _]
   rw[List.length_map,List.length_range,Di i2];rfl
 · simp only[List.getElem_map,List.getElem_range]
   rw[←Di i2]
   show[_,_,_,_,_,_,Value.slice _ ((List.range _).map _).length _,Value.slice _ ((List.range _).map _).length _]=_
   rw[List.length_map,List.length_range,List.length_map,List.length_range];rfl
 · have:=MR (n:=nH) s6
   rw[SK h3]at this
   exact this
 · have hi':i<nC:=by simpa[Kq]using hi
   show BD _ _ _ _ (gd ((List.range nC).map (wM XC)) i)
   rw[gC hi']
   have hwl:=hW.len
   have e:=mW.lo i hi'
   obtain⟨e1,e2⟩:=hW.at_ i hi'
   have hlen:=mW.len
   have:=Bf (Ext.refl _ _) (fun _ _=>trivial) (La (cells:=Af.cells) (s:=gd ws' i) (fun _=>rfl) r2 (Nr (by omega)) (by rw[e];show(BU _ _ _).length≤_;rw[Dw e2];exact hlw i hi')) (F':=Any)
   rw[e]at this
   have:=MR (n:=(gd XC i).xs.length) this
   rw[SK e2,←e1]at this
   exact PH this (by simpa using hcw i hi')
 · have hi':i<nP:=by simpa[Kq]using hi
   show BD _ _ _ _ (gd ((List.range nP).map (pM XC nC XP)) i).Ad
   rw[gP hi']
   have hwl:=hR.len
   have e:=mR.lo i hi'
   obtain⟨e1,e2⟩:=hR.at_ i hi'
   have hlen:=mR.len
   have:=Bf (Ext.refl _ _) (fun _ _=>trivial) (La (cells:=Ak.cells) (s:=gd rs' i) (fun _=>rfl) r4 (Nr (by omega)) (by rw[e];show(BU _ _ _).length≤_;rw[Dw e2];exact(hlr i hi').1)) (F':=Any)
   rw[e]at this
   have:=MR (n:=(gd XP i).Ad.xs.length) this
   rw[SK e2,←e1]at this
   exact PH this (by simpa using(hcr i hi').1)
 · have hi':i<nP:=by simpa[Kq]using hi
   show BD _ _ _ _ (gd ((List.range nP).map (pM XC nC XP)) i).Ai
   rw[gP hi']
   have hwl:=hQ.len
   have e:=mQ.lo i hi'
   obtain⟨e1,e2⟩:=hQ.at_ i hi'
   have hlen:=mQ.len
   have:=Bf (Ext.refl _ _) (fun _ _=>trivial) (La (cells:=Ap.cells) (s:=gd qs' i) (fun _=>rfl) r5 (Nr (by omega)) (by rw[e];show(BU _ _ _).length≤_;rw[Dw e2];exact(hlr i hi').2)) (F':=Any)
   rw[e]at this
   have:=MR (n:=(gd XP i).Ai.xs.length) this
   rw[SK e2,←e1]at this
   exact PH this (by simpa using(hcr i hi').2)
end
end Go.Proofs.Ytjmcjekhgpakoaa.Ck
namespace Go.Proofs.Ytjmcjekhgpakoaa.Cf
open Go Go.Proofs.Ytjmcjekhgpakoaa.Eng Go.Proofs.Ytjmcjekhgpakoaa.Mem Go.Proofs.Ytjmcjekhgpakoaa.Ly
set_option linter.unusedSimpArgs false
set_option linter.unusedVariables false
set_option maxRecDepth 100000
theorem okR_is(y:Ak):okR y=([y.Ed,y.Dz,y.Frame,y.CX]:List Int).all CU:=by unfold okR;simp[Bool.and_assoc]
theorem okP_is(y:Ap):O3 y=([y.Channel]:List Int).all CU:=by unfold O3;simp
theorem okC_is(y:Ar):MS y=([y.Kind,y.Words,y.Ei]:List Int).all CU:=by unfold MS;simp[Bool.and_assoc]
section
variable (z:Nat)(p:Ag)
abbrev OT:=bk (z+1) #[i6 p.Entry,i6 p.AP,i6 p.AA,i6 p.AQ,i6 p.AL] 3
abbrev Oa:=bk z (Ag.arr p) 47
abbrev Qr:=(39,Ae p.Ad.xs.length)
abbrev Q5:=(62,Ae p.Ai.xs.length)
end
theorem holdsP_calls(w:World)(p:Ag)(hp:Ag.ok Any w p):Calls Try.prog 40 #[.agg (Ag.arr p)] w fun e w'=>e = .returned (.bool (FT p))∧AV (fun _=>False) w w':=by
 obtain⟨z,hz⟩:∃ z,z=w.heap.size:=⟨_,rfl⟩
 refine Bc (args:=[.agg (Ag.arr p)]) 76 ⟨w,z,[(A8 w)]⟩ Try.func40 rfl (by kernel_rfl) (by kernel_rfl) (EW hz) ?_
 have hrl:=hp.Ad.1.len;have hpl:=hp.Ai.1.len;have hnl:=hp.Name
 refine Bj [0] [(0,.agg (Ag.arr p))] ?_
 refine q_c 6 0 [] [[o0,o0]] [] [(1,pt z)] ⟨w,z+1,[(A8 w),(Oa z p)]⟩ rfl Ac ?_
 by_cases h1:(255:Int)<(p.Name.size:Int)
 ·refine Aw 9 0 [1] [[o0,(a1 1),o0,oT,o0,o0,o0,o0,o0,o0],[o0]] [Qb z,BT ((p.Name.size:Int) > 255)] [(2,.bool false)] rfl ⟨rfl,bt,Ac⟩ ?_
  refine AU [] [] (.bool false) Ac ?_
  intro w2 hw2
  exact⟨congrArg (fun b=>Ending.returned (Value.bool b)) (Eq.symm (by unfold FT;rw[decide_eq_false (by omega:¬ p.Name.size≤255)];simp)),A7 hw2⟩
 by_cases h3:(255:Int)<(p.Ad.xs.length:Int)
 ·refine Aw 9 0 [1] [[o0,(a1 1),o0,oF,o0,o0,(a1 1),o0,oT,o0,o0,o0,o0,o0],[o0]] [Qb z,BF ((p.Name.size:Int) > 255),Qb z,BT ((p.Ad.xs.length:Int) > 255)] [(2,.bool false)] rfl ⟨rfl,bf,rfl,bt,Ac⟩ ?_
  refine AU [] [] (.bool false) Ac ?_
  intro w4 hw4
  exact⟨congrArg (fun b=>Ending.returned (Value.bool b)) (Eq.symm (by unfold FT;rw[Kz (ok:=okR) (xs:=p.Ad.xs) (by omega)];simp)),A7 hw4⟩
 by_cases h5:(255:Int)<(p.Ai.xs.length:Int)
 ·refine Aw 9 0 [1] [[o0,(a1 1),o0,oF,o0,o0,(a1 1),o0,oF,o0,o0,o0,(a1 1),o0,oT,o0,o0,o0],[o0]] [Qb z,BF ((p.Name.size:Int) > 255),Qb z,BF ((p.Ad.xs.length:Int) > 255),Qb z,BT ((p.Ai.xs.length:Int) > 255)] [(2,.bool false)] rfl ⟨rfl,bf,rfl,bf,rfl,bt,Ac⟩ ?_
  refine AU [] [] (.bool false) Ac ?_
  intro w6 hw6
  exact⟨congrArg (fun b=>Ending.returned (Value.bool b)) (Eq.symm (by unfold FT;rw[Kz (ok:=O3) (xs:=p.Ai.xs) (by omega)];simp)),A7 hw6⟩
 refine q_c 1 28 [] [[o0,(a1 1),o0,oF,o0,o0,(a1 1),o0,oF,o0,o0,o0,(a1 1),o0,oF,o0,o0,o0,(a1 1),o0,(a1 1),o0,(a1 1),o0,(a1 1),o0,(a1 1),o0]] [Qb z,BF ((p.Name.size:Int) > 255),Qb z,BF ((p.Ad.xs.length:Int) > 255),Qb z,BF ((p.Ai.xs.length:Int) > 255),Qb z,Qb z,Qb z,Qb z,Qb z] [(1,pt z),(22,.bool false),(33,.slice (some ⟨z+1,0,none⟩) 5 5)] ⟨w,z+2,[(A8 w),(Oa z p),(OT z p)]⟩ rfl ⟨rfl,bf,rfl,bf,rfl,bf,rfl,rfl,rfl,rfl,rfl,Ac⟩ ?_
 refine l_call [] [] 38 #[.slice (some ⟨z+1,0,none⟩) 5 5] (some 34) Ac ?_
 intro w7 hw7
 refine(O7 w7 ⟨some ⟨z+1,0,none⟩,5,([p.Entry,p.AP,p.AA,p.AQ,p.AL]:List Int)⟩ (Un (hw7.at (i:=2) rfl) rfl (by simp) (by simp))).mono ?_
 rintro e w8 ⟨rfl,hkw8⟩
 have hnw8:z+2≤w8.heap.size:=AB hw7 hkw8
 refine⟨_,_,rfl,hw7.keeps hkw8, ?_⟩
 refine DX [1,22,34] [(1,pt z),(22,.bool false),(34,.bool (([p.Entry,p.AP,p.AA,p.AQ,p.AL]:List Int).all CU))] ?_
 by_cases h9:(([p.Entry,p.AP,p.AA,p.AQ,p.AL]:List Int).all CU)=true
 ·refine AC 11 0 [0] [[(ov (.bool false)),o0],[o0,(a1 1),o0,o0]] [Value.bool (!(([p.Entry,p.AP,p.AA,p.AQ,p.AL]:List Int).all CU))=Value.bool false,Qb z] [(1,pt z),(Qr p),(40,i6 0)] rfl ⟨by simp[h9],rfl,Ac⟩ ?_
  refine Bl (fun m a w'=>∃ (n11:Nat) (i:Nat),m=p.Ad.xs.length - i∧w8.heap.size≤n11∧(i≤p.Ad.xs.length)∧(∀ q,q<i→okR (gd p.Ad.xs q)=true)∧St 76 [(1,pt z),(Qr p),(40,Ae i)] [] ⟨w,n11,[(A8 w),(Oa z p),(OT z p)]⟩ a w') (p.Ad.xs.length - 0) ?_ ?_
  ·intro a w' hs;exact⟨w8.heap.size,0,rfl,Nat.le_refl _,Nat.zero_le _,fun q hq=>absurd hq (Nat.not_lt_zero q),hs⟩
  rintro m a w' ⟨n11,i,rfl,hn10,hki,hokR,hs⟩
  refine(?_:G Try.prog 76 [(1,pt z),(Qr p),(40,Ae i)] [] ⟨w,n11,[(A8 w),(Oa z p),(OT z p)]⟩ _ _ _) a w' hs
  clear hs a w'
  refine Bi ?_
  by_cases h12:(i:Int)<(p.Ad.xs.length:Int)
  ·refine Aw 14 0 [1] [[oT],[o0,o0]] [BT ((i:Int)<(p.Ad.xs.length:Int))] [(1,pt z),(Qr p),(40,Ae i),(3,Ae i)] rfl ⟨bt,Ac⟩ ?_
   obtain⟨b13,o14,ha15,hF17,hc16⟩:=(hp.Ad).1.all (show 0<p.Ad.xs.length by omega)
   replace ha15:p.Ad.a=some ⟨b13,o14,none⟩:=ha15
   have hc18:=hc16 i (show i<p.Ad.xs.length by omega)
   have he19:=(hp.Ad).2 i (show i<p.Ad.xs.length by omega)
   obtain⟨y20,hy20⟩:∃ y_,y_=gd p.Ad.xs i:=⟨_,rfl⟩
   rw[←hy20]at he19 hc18
   refine q_c 5 9 [] [[o0,(DF 1 b13 o14 p.Ad),o0,(oi i),(ol 0 (Ak.arr y20)),o0,(an 4 3)],[o0,(a1 3),o0,(a1 3),o0,(a1 3),o0,(a1 3),o0]] [Qb z,Df b13 o14 p.Ad,BK i,i<p.Ad.xs.length,BG,Fq w b13 (o14+i*4) (Ak.arr y20),Qb n11,Qb n11,Qb n11,Qb n11,Qb n11,Qb n11,Qb n11,Qb n11] [(1,pt z),(Qr p),(40,Ae i),(56,.slice (some ⟨n11+1,0,none⟩) 4 4)] ⟨w,n11+2,[(A8 w),(Oa z p),(OT z p),(bk n11 (Ak.arr y20) 53),(bk (n11+1) #[i6 y20.Ed,i6 y20.Dz,i6 y20.Frame,i6 y20.CX] 3)]⟩ rfl ⟨rfl,CZ ha15,rfl,(by omega),rfl,D6 hc18,rfl,rfl,rfl,rfl,rfl,rfl,rfl,rfl,Ac⟩ ?_
   refine l_call [] [] 38 #[.slice (some ⟨n11+1,0,none⟩) 4 4] (some 57) Ac ?_
   intro w21 hw21
   refine(O7 w21 ⟨some ⟨n11+1,0,none⟩,4,([y20.Ed,y20.Dz,y20.Frame,y20.CX]:List Int)⟩ (Un (hw21.at (i:=4) rfl) rfl (by simp) (by simp))).mono ?_
   rintro e w22 ⟨rfl,hkw22⟩
   have hnw22:n11+2≤w22.heap.size:=AB hw21 hkw22
   refine⟨_,_,rfl,hw21.keeps hkw22, ?_⟩
   refine DX [1,39,40,57] [(1,pt z),(Qr p),(40,Ae i),(57,.bool (([y20.Ed,y20.Dz,y20.Frame,y20.CX]:List Int).all CU))] ?_
   by_cases h23:(([y20.Ed,y20.Dz,y20.Frame,y20.CX]:List Int).all CU)=true
   ·refine AC 8 0 [0] [[(ov (.bool false))],[(ov (i6 ((i+1:Nat):Int))),o0]] [Value.bool (!(([y20.Ed,y20.Dz,y20.Frame,y20.CX]:List Int).all CU))=Value.bool false,Wr ((i:Int)+1) (((i+1:Nat):Int))] [(1,pt z),(Qr p),(40,i6 ((i+1:Nat):Int))] rfl ⟨by simp[h23],Bq,Ac⟩ ?_
    refine CG [0,1,2] [(A8 w),(Oa z p),(OT z p)] rfl rfl ?_
    refine Ce [1,39,40] [(1,pt z),(Qr p),(40,i6 ((i+1:Nat):Int))] ?_
    refine BB (fun a w' hs=>⟨p.Ad.xs.length - (i+1),by omega,w22.heap.size,(i+1),rfl,by omega,by omega,Hw hokR (by rw[←hy20,okR_is];exact h23),hs⟩)
   refine AC 8 0 [1] [[(ov (.bool true))],[o0]] [Value.bool (!(([y20.Ed,y20.Dz,y20.Frame,y20.CX]:List Int).all CU))=Value.bool true] [(2,.bool false)] rfl ⟨by simp[h23],Ac⟩ ?_
   refine AU [] [] (.bool false) Ac ?_
   intro w24 hw24
   exact⟨congrArg (fun b=>Ending.returned (Value.bool b)) (Eq.symm (by unfold FT;rw[Jq (ok:=okR) (xs:=p.Ad.xs) (i:=i) (by omega) (by rw[←hy20];rw[okR_is];exact Bool.eq_false_iff.2 h23)];simp)),A7 hw24⟩
  refine Aw 16 0 [0] [[oF],[o0,(a1 1),o0,o0]] [BF ((i:Int)<(p.Ad.xs.length:Int)),Qb z] [(1,pt z),(Q5 p),(63,i6 0)] rfl ⟨bf,rfl,Ac⟩ ?_
  refine Bl (fun m a w'=>∃ (n26:Nat) (j:Nat),m=p.Ai.xs.length - j∧n11≤n26∧(j≤p.Ai.xs.length)∧(∀ q,q<j→O3 (gd p.Ai.xs q)=true)∧St 76 [(1,pt z),(Q5 p),(63,Ae j)] [] ⟨w,n26,[(A8 w),(Oa z p),(OT z p)]⟩ a w') (p.Ai.xs.length - 0) ?_ ?_
  ·intro a w' hs;exact⟨n11,0,rfl,Nat.le_refl _,Nat.zero_le _,fun q hq=>absurd hq (Nat.not_lt_zero q),hs⟩
  rintro m a w' ⟨n26,j,rfl,hn25,hkj,hokP,hs⟩
  refine(?_:G Try.prog 76 [(1,pt z),(Q5 p),(63,Ae j)] [] ⟨w,n26,[(A8 w),(Oa z p),(OT z p)]⟩ _ _ _) a w' hs
  clear hs a w'
  refine Bi ?_
  by_cases h27:(j:Int)<(p.Ai.xs.length:Int)
  ·refine Aw 14 0 [1] [[oT],[o0,o0]] [BT ((j:Int)<(p.Ai.xs.length:Int))] [(1,pt z),(Q5 p),(63,Ae j),(5,Ae j)] rfl ⟨bt,Ac⟩ ?_
   obtain⟨b28,o29,ha30,hF32,hc31⟩:=(hp.Ai).1.all (show 0<p.Ai.xs.length by omega)
   replace ha30:p.Ai.a=some ⟨b28,o29,none⟩:=ha30
   have hc33:=hc31 j (show j<p.Ai.xs.length by omega)
   have he34:=(hp.Ai).2 j (show j<p.Ai.xs.length by omega)
   obtain⟨y35,hy35⟩:∃ y_,y_=gd p.Ai.xs j:=⟨_,rfl⟩
   rw[←hy35]at he34 hc33
   refine q_c 1 7 [] [[o0,(DF 1 b28 o29 p.Ai),o0,(oi j),o0,(oa [.via 0 (i6 y35.Channel)]),o0]] [Qb z,Df b28 o29 p.Ai,BK j,j<p.Ai.xs.length,BG,Old w b28 (o29+j*2) (i6 y35.Channel)] [(1,pt z),(Q5 p),(63,Ae j),(72,.slice (some ⟨n26,0,none⟩) 1 1)] ⟨w,n26+1,[(A8 w),(Oa z p),(OT z p),(bk n26 #[i6 y35.Channel] 3)]⟩ rfl ⟨rfl,CZ ha30,rfl,(by omega),rfl,Bg (hc33 0 _ rfl),Ac⟩ ?_
   refine l_call [] [] 38 #[.slice (some ⟨n26,0,none⟩) 1 1] (some 73) Ac ?_
   intro w36 hw36
   refine(O7 w36 ⟨some ⟨n26,0,none⟩,1,([y35.Channel]:List Int)⟩ (Un (hw36.at (i:=3) rfl) rfl (by simp) (by simp))).mono ?_
   rintro e w37 ⟨rfl,hkw37⟩
   have hnw37:n26+1≤w37.heap.size:=AB hw36 hkw37
   refine⟨_,_,rfl,hw36.keeps hkw37, ?_⟩
   refine DX [1,62,63,73] [(1,pt z),(Q5 p),(63,Ae j),(73,.bool (([y35.Channel]:List Int).all CU))] ?_
   by_cases h38:(([y35.Channel]:List Int).all CU)=true
   ·refine AC 8 0 [0] [[(ov (.bool false))],[(ov (i6 ((j+1:Nat):Int))),o0]] [Value.bool (!(([y35.Channel]:List Int).all CU))=Value.bool false,Wr ((j:Int)+1) (((j+1:Nat):Int))] [(1,pt z),(Q5 p),(63,i6 ((j+1:Nat):Int))] rfl ⟨by simp[h38],Bq,Ac⟩ ?_
    refine CG [0,1,2] [(A8 w),(Oa z p),(OT z p)] rfl rfl ?_
    refine Ce [1,62,63] [(1,pt z),(Q5 p),(63,i6 ((j+1:Nat):Int))] ?_
    refine BB (fun a w' hs=>⟨p.Ai.xs.length - (j+1),by omega,w37.heap.size,(j+1),rfl,by omega,by omega,Hw hokP (by rw[←hy35,okP_is];exact h38),hs⟩)
   refine AC 8 0 [1] [[(ov (.bool true))],[o0]] [Value.bool (!(([y35.Channel]:List Int).all CU))=Value.bool true] [(2,.bool false)] rfl ⟨by simp[h38],Ac⟩ ?_
   refine AU [] [] (.bool false) Ac ?_
   intro w39 hw39
   exact⟨congrArg (fun b=>Ending.returned (Value.bool b)) (Eq.symm (by unfold FT;rw[Jq (ok:=O3) (xs:=p.Ai.xs) (i:=j) (by omega) (by rw[←hy35];rw[okP_is];exact Bool.eq_false_iff.2 h38)];simp)),A7 hw39⟩
  refine Aw 15 0 [0] [[oF],[o0]] [BF ((j:Int)<(p.Ai.xs.length:Int))] [(2,.bool true)] rfl ⟨bf,Ac⟩ ?_
  refine AU [] [] (.bool true) Ac ?_
  intro w40 hw40
  exact⟨congrArg (fun b=>Ending.returned (Value.bool b)) (Eq.symm (by unfold FT;rw[decide_eq_true (by omega:p.Name.size≤255),show(KF p).all CU=true from h9,Kw (ok:=okR) (xs:=p.Ad.xs) (by omega) (fun q hq=>hokR q (by omega)),Kw (ok:=O3) (xs:=p.Ai.xs) (by omega) (fun q hq=>hokP q (by omega))];rfl)),A7 hw40⟩
 refine AC 8 0 [1] [[(ov (.bool true)),o0],[o0]] [Value.bool (!(([p.Entry,p.AP,p.AA,p.AQ,p.AL]:List Int).all CU))=Value.bool true] [(2,.bool false)] rfl ⟨by simp[h9],Ac⟩ ?_
 refine AU [] [] (.bool false) Ac ?_
 intro w41 hw41
 exact⟨congrArg (fun b=>Ending.returned (Value.bool b)) (Eq.symm (by unfold FT;rw[show(KF p).all CU=false from Bool.eq_false_iff.2 h9];simp)),A7 hw41⟩
section
variable (z:Nat)(c:Am)
abbrev Pq:=bk (z+1) #[i6 c.Frames,i6 c.AX,i6 c.Kernel,i6 c.Room] 3
abbrev NL:=bk z (Am.arr c) 26
abbrev Rj:=(52,Ae c.Aa.xs.length)
abbrev Ql:=(66,Ae c.Ah.xs.length)
abbrev Ro:=(38,Ae c.Aj.xs.length)
end
theorem holds_calls(w:World)(c:Am)(hc:Am.ok Any w c):Calls Try.prog 13 #[.agg (Am.arr c)] w fun e w'=>e = .returned (.bool (FQ c))∧AV (fun _=>False) w w':=by
 obtain⟨z,hz⟩:∃ z,z=w.heap.size:=⟨_,rfl⟩
 refine Bc (args:=[.agg (Am.arr c)]) 85 ⟨w,z,[(A8 w)]⟩ Try.func13 rfl (by kernel_rfl) (by kernel_rfl) (EW hz) ?_
 have hl1:=hc.Aj.1.len;have hl2:=hc.Aa.1.len;have hl3:=hc.Ah.1.len
 refine Bj [0] [(0,.agg (Am.arr c))] ?_
 refine q_c 6 0 [] [[o0,o0]] [] [(1,pt z)] ⟨w,z+1,[(A8 w),(NL z c)]⟩ rfl Ac ?_
 by_cases h1:(255:Int)<(c.Aj.xs.length:Int)
 ·refine Aw 9 0 [1] [[o0,(a1 1),o0,oT,o0,o0,o0,o0,o0,o0],[o0]] [Qb z,BT ((c.Aj.xs.length:Int) > 255)] [(2,.bool false)] rfl ⟨rfl,bt,Ac⟩ ?_
  refine AU [] [] (.bool false) Ac ?_
  intro w2 hw2
  exact⟨congrArg (fun b=>Ending.returned (Value.bool b)) (Eq.symm (by unfold FQ;rw[Kz (ok:=Kr) (xs:=c.Aj.xs) (by omega)];simp)),A7 hw2⟩
 by_cases h3:(255:Int)<(c.Aa.xs.length:Int)
 ·refine Aw 9 0 [1] [[o0,(a1 1),o0,oF,o0,o0,(a1 1),o0,oT,o0,o0,o0,o0,o0],[o0]] [Qb z,BF ((c.Aj.xs.length:Int) > 255),Qb z,BT ((c.Aa.xs.length:Int) > 255)] [(2,.bool false)] rfl ⟨rfl,bf,rfl,bt,Ac⟩ ?_
  refine AU [] [] (.bool false) Ac ?_
  intro w4 hw4
  exact⟨congrArg (fun b=>Ending.returned (Value.bool b)) (Eq.symm (by unfold FQ;rw[Kz (ok:=FT) (xs:=c.Aa.xs) (by omega)];simp)),A7 hw4⟩
 by_cases h5:(255:Int)<(c.Ah.xs.length:Int)
 ·refine Aw 9 0 [1] [[o0,(a1 1),o0,oF,o0,o0,(a1 1),o0,oF,o0,o0,o0,(a1 1),o0,oT,o0,o0,o0],[o0]] [Qb z,BF ((c.Aj.xs.length:Int) > 255),Qb z,BF ((c.Aa.xs.length:Int) > 255),Qb z,BT ((c.Ah.xs.length:Int) > 255)] [(2,.bool false)] rfl ⟨rfl,bf,rfl,bf,rfl,bt,Ac⟩ ?_
  refine AU [] [] (.bool false) Ac ?_
  intro w6 hw6
  exact⟨congrArg (fun b=>Ending.returned (Value.bool b)) (Eq.symm (by unfold FQ;rw[Kz (ok:=MS) (xs:=c.Ah.xs) (by omega)];simp)),A7 hw6⟩
 refine q_c 1 26 [] [[o0,(a1 1),o0,oF,o0,o0,(a1 1),o0,oF,o0,o0,o0,(a1 1),o0,oF,o0,o0,o0,(a1 1),o0,(a1 1),o0,(a1 1),o0,(a1 1),o0]] [Qb z,BF ((c.Aj.xs.length:Int) > 255),Qb z,BF ((c.Aa.xs.length:Int) > 255),Qb z,BF ((c.Ah.xs.length:Int) > 255),Qb z,Qb z,Qb z,Qb z] [(1,pt z),(23,.bool false),(32,.slice (some ⟨z+1,0,none⟩) 4 4)] ⟨w,z+2,[(A8 w),(NL z c),(Pq z c)]⟩ rfl ⟨rfl,bf,rfl,bf,rfl,bf,rfl,rfl,rfl,rfl,Ac⟩ ?_
 refine l_call [] [] 38 #[.slice (some ⟨z+1,0,none⟩) 4 4] (some 33) Ac ?_
 intro w7 hw7
 refine(O7 w7 ⟨some ⟨z+1,0,none⟩,4,([c.Frames,c.AX,c.Kernel,c.Room]:List Int)⟩ (Un (hw7.at (i:=2) rfl) rfl (by simp) (by simp))).mono ?_
 rintro e w8 ⟨rfl,hkw8⟩
 have hnw8:z+2≤w8.heap.size:=AB hw7 hkw8
 refine⟨_,_,rfl,hw7.keeps hkw8, ?_⟩
 refine DX [1,23,33] [(1,pt z),(23,.bool false),(33,.bool (([c.Frames,c.AX,c.Kernel,c.Room]:List Int).all CU))] ?_
 by_cases h9:(([c.Frames,c.AX,c.Kernel,c.Room]:List Int).all CU)=true
 ·refine AC 11 0 [0] [[(ov (.bool false)),o0],[o0,(a1 1),o0,o0]] [Value.bool (!(([c.Frames,c.AX,c.Kernel,c.Room]:List Int).all CU))=Value.bool false,Qb z] [(1,pt z),(Ro c),(39,i6 0)] rfl ⟨by simp[h9],rfl,Ac⟩ ?_
  refine Bl (fun m a w'=>∃ (n11:Nat) (i:Nat),m=c.Aj.xs.length - i∧w8.heap.size≤n11∧(i≤c.Aj.xs.length)∧(∀ q,q<i→Kr (gd c.Aj.xs q)=true)∧St 85 [(1,pt z),(Ro c),(39,Ae i)] [] ⟨w,n11,[(A8 w),(NL z c),(Pq z c)]⟩ a w') (c.Aj.xs.length - 0) ?_ ?_
  ·intro a w' hs;exact⟨w8.heap.size,0,rfl,Nat.le_refl _,Nat.zero_le _,fun q hq=>absurd hq (Nat.not_lt_zero q),hs⟩
  rintro m a w' ⟨n11,i,rfl,hn10,hki,hok1,hs⟩
  refine(?_:G Try.prog 85 [(1,pt z),(Ro c),(39,Ae i)] [] ⟨w,n11,[(A8 w),(NL z c),(Pq z c)]⟩ _ _ _) a w' hs
  clear hs a w'
  refine Bi ?_
  by_cases h12:(i:Int)<(c.Aj.xs.length:Int)
  ·refine Aw 14 0 [1] [[oT],[o0,o0]] [BT ((i:Int)<(c.Aj.xs.length:Int))] [(1,pt z),(Ro c),(39,Ae i),(3,Ae i)] rfl ⟨bt,Ac⟩ ?_
   obtain⟨b13,o14,ha15,hF17,hc16⟩:=(hc.Aj).1.all (show 0<c.Aj.xs.length by omega)
   replace ha15:c.Aj.a=some ⟨b13,o14,none⟩:=ha15
   have hc18:=hc16 i (show i<c.Aj.xs.length by omega)
   have he19:=(hc.Aj).2 i (show i<c.Aj.xs.length by omega)
   obtain⟨y20,hy20⟩:∃ y_,y_=gd c.Aj.xs i:=⟨_,rfl⟩
   rw[←hy20]at he19 hc18
   refine Aw 1 5 [] [[o0,(DF 1 b13 o14 c.Aj),o0,(oi i),(oa [.via 0 (.slice y20.a y20.xs.length y20.cap)])]] [Qb z,Df b13 o14 c.Aj,BK i,i<c.Aj.xs.length,BG,Old w b13 (o14+i) (.slice y20.a y20.xs.length y20.cap)] [(1,pt z),(Ro c),(39,Ae i),(46,.slice y20.a y20.xs.length y20.cap)] rfl ⟨rfl,CZ ha15,rfl,(by omega),rfl,Bg (hc18 0 _ rfl),Ac⟩ ?_
   refine Uy 39 #[.slice y20.a y20.xs.length y20.cap] (some 47) (.bool (Kr y20)) (fun w21 hw21=>Zac w21 y20 (DY (hw21.ext rfl) (fun _ h=>h) he19 (fun _ h=>Af.ok.ext (hw21.ext rfl) (fun _ h=>h) h))) (fun n22 (hn23:n11≤n22) => ?_)
   refine DX [1,38,39,47] [(1,pt z),(Ro c),(39,Ae i),(47,.bool (Kr y20))] ?_
   by_cases h24:(Kr y20)=true
   ·refine AC 8 0 [0] [[(ov (.bool false))],[(ov (i6 ((i+1:Nat):Int))),o0]] [Value.bool (!(Kr y20))=Value.bool false,Wr ((i:Int)+1) (((i+1:Nat):Int))] [(1,pt z),(Ro c),(39,i6 ((i+1:Nat):Int))] rfl ⟨by simp[h24],Bq,Ac⟩ ?_
    refine BB (fun a w' hs=>⟨c.Aj.xs.length - (i+1),by omega,n22,(i+1),rfl,by omega,by omega,Hw hok1 (by rw[←hy20];exact h24),hs⟩)
   refine AC 8 0 [1] [[(ov (.bool true))],[o0]] [Value.bool (!(Kr y20))=Value.bool true] [(2,.bool false)] rfl ⟨by simp[h24],Ac⟩ ?_
   refine AU [] [] (.bool false) Ac ?_
   intro w25 hw25
   exact⟨congrArg (fun b=>Ending.returned (Value.bool b)) (Eq.symm (by unfold FQ;rw[Jq (ok:=Kr) (xs:=c.Aj.xs) (i:=i) (by omega) (by rw[←hy20];exact Bool.eq_false_iff.2 h24)];simp)),A7 hw25⟩
  refine Aw 16 0 [0] [[oF],[o0,(a1 1),o0,o0]] [BF ((i:Int)<(c.Aj.xs.length:Int)),Qb z] [(1,pt z),(Rj c),(53,i6 0)] rfl ⟨bf,rfl,Ac⟩ ?_
  refine Bl (fun m a w'=>∃ (n27:Nat) (j:Nat),m=c.Aa.xs.length - j∧n11≤n27∧(j≤c.Aa.xs.length)∧(∀ q,q<j→FT (gd c.Aa.xs q)=true)∧St 85 [(1,pt z),(Rj c),(53,Ae j)] [] ⟨w,n27,[(A8 w),(NL z c),(Pq z c)]⟩ a w') (c.Aa.xs.length - 0) ?_ ?_
  ·intro a w' hs;exact⟨n11,0,rfl,Nat.le_refl _,Nat.zero_le _,fun q hq=>absurd hq (Nat.not_lt_zero q),hs⟩
  rintro m a w' ⟨n27,j,rfl,hn26,hkj,hok2,hs⟩
  refine(?_:G Try.prog 85 [(1,pt z),(Rj c),(53,Ae j)] [] ⟨w,n27,[(A8 w),(NL z c),(Pq z c)]⟩ _ _ _) a w' hs
  clear hs a w'
  refine Bi ?_
  by_cases h28:(j:Int)<(c.Aa.xs.length:Int)
  ·refine Aw 14 0 [1] [[oT],[o0,o0]] [BT ((j:Int)<(c.Aa.xs.length:Int))] [(1,pt z),(Rj c),(53,Ae j),(4,Ae j)] rfl ⟨bt,Ac⟩ ?_
   obtain⟨b29,o30,ha31,hF33,hc32⟩:=(hc.Aa).1.all (show 0<c.Aa.xs.length by omega)
   replace ha31:c.Aa.a=some ⟨b29,o30,none⟩:=ha31
   have hc34:=hc32 j (show j<c.Aa.xs.length by omega)
   have he35:=(hc.Aa).2 j (show j<c.Aa.xs.length by omega)
   obtain⟨y36,hy36⟩:∃ y_,y_=gd c.Aa.xs j:=⟨_,rfl⟩
   rw[←hy36]at he35 hc34
   refine Aw 1 5 [] [[o0,(DF 1 b29 o30 c.Aa),o0,(oi j),(ol 0 (Ag.arr y36))]] [Qb z,Df b29 o30 c.Aa,BK j,j<c.Aa.xs.length,BG,Fq w b29 (o30+j*8) (Ag.arr y36)] [(1,pt z),(Rj c),(53,Ae j),(60,.agg (Ag.arr y36))] rfl ⟨rfl,CZ ha31,rfl,(by omega),rfl,D6 hc34,Ac⟩ ?_
   refine Uy 40 #[.agg (Ag.arr y36)] (some 61) (.bool (FT y36)) (fun w37 hw37=>holdsP_calls w37 y36 (he35.ext (hw37.ext rfl) (fun _ h=>h))) (fun n38 (hn39:n27≤n38) => ?_)
   refine DX [1,52,53,61] [(1,pt z),(Rj c),(53,Ae j),(61,.bool (FT y36))] ?_
   by_cases h40:(FT y36)=true
   ·refine AC 8 0 [0] [[(ov (.bool false))],[(ov (i6 ((j+1:Nat):Int))),o0]] [Value.bool (!(FT y36))=Value.bool false,Wr ((j:Int)+1) (((j+1:Nat):Int))] [(1,pt z),(Rj c),(53,i6 ((j+1:Nat):Int))] rfl ⟨by simp[h40],Bq,Ac⟩ ?_
    refine BB (fun a w' hs=>⟨c.Aa.xs.length - (j+1),by omega,n38,(j+1),rfl,by omega,by omega,Hw hok2 (by rw[←hy36];exact h40),hs⟩)
   refine AC 8 0 [1] [[(ov (.bool true))],[o0]] [Value.bool (!(FT y36))=Value.bool true] [(2,.bool false)] rfl ⟨by simp[h40],Ac⟩ ?_
   refine AU [] [] (.bool false) Ac ?_
   intro w41 hw41
   exact⟨congrArg (fun b=>Ending.returned (Value.bool b)) (Eq.symm (by unfold FQ;rw[Jq (ok:=FT) (xs:=c.Aa.xs) (i:=j) (by omega) (by rw[←hy36];exact Bool.eq_false_iff.2 h40)];simp)),A7 hw41⟩
  refine Aw 16 0 [0] [[oF],[o0,(a1 1),o0,o0]] [BF ((j:Int)<(c.Aa.xs.length:Int)),Qb z] [(1,pt z),(Ql c),(67,i6 0)] rfl ⟨bf,rfl,Ac⟩ ?_
  refine Bl (fun m a w'=>∃ (n43:Nat) (k:Nat),m=c.Ah.xs.length - k∧n27≤n43∧(k≤c.Ah.xs.length)∧(∀ q,q<k→MS (gd c.Ah.xs q)=true)∧St 85 [(1,pt z),(Ql c),(67,Ae k)] [] ⟨w,n43,[(A8 w),(NL z c),(Pq z c)]⟩ a w') (c.Ah.xs.length - 0) ?_ ?_
  ·intro a w' hs;exact⟨n27,0,rfl,Nat.le_refl _,Nat.zero_le _,fun q hq=>absurd hq (Nat.not_lt_zero q),hs⟩
  rintro m a w' ⟨n43,k,rfl,hn42,hkk,hok3,hs⟩
  refine(?_:G Try.prog 85 [(1,pt z),(Ql c),(67,Ae k)] [] ⟨w,n43,[(A8 w),(NL z c),(Pq z c)]⟩ _ _ _) a w' hs
  clear hs a w'
  refine Bi ?_
  by_cases h44:(k:Int)<(c.Ah.xs.length:Int)
  ·refine Aw 14 0 [1] [[oT],[o0,o0]] [BT ((k:Int)<(c.Ah.xs.length:Int))] [(1,pt z),(Ql c),(67,Ae k),(5,Ae k)] rfl ⟨bt,Ac⟩ ?_
   obtain⟨b45,o46,ha47,hF49,hc48⟩:=(hc.Ah).1.all (show 0<c.Ah.xs.length by omega)
   replace ha47:c.Ah.a=some ⟨b45,o46,none⟩:=ha47
   have hc50:=hc48 k (show k<c.Ah.xs.length by omega)
   have he51:=(hc.Ah).2 k (show k<c.Ah.xs.length by omega)
   obtain⟨y52,hy52⟩:∃ y_,y_=gd c.Ah.xs k:=⟨_,rfl⟩
   rw[←hy52]at he51 hc50
   refine q_c 5 7 [] [[o0,(DF 1 b45 o46 c.Ah),o0,(oi k),(ol 0 (Ar.arr y52)),o0,(an 3 3)],[o0,(a1 3),o0,(a1 3),o0,(a1 3),o0]] [Qb z,Df b45 o46 c.Ah,BK k,k<c.Ah.xs.length,BG,Fq w b45 (o46+k*3) (Ar.arr y52),Qb n43,Qb n43,Qb n43,Qb n43,Qb n43,Qb n43] [(1,pt z),(Ql c),(67,Ae k),(81,.slice (some ⟨n43+1,0,none⟩) 3 3)] ⟨w,n43+2,[(A8 w),(NL z c),(Pq z c),(bk n43 (Ar.arr y52) 57),(bk (n43+1) #[i6 y52.Kind,i6 y52.Words,i6 y52.Ei] 3)]⟩ rfl ⟨rfl,CZ ha47,rfl,(by omega),rfl,D6 hc50,rfl,rfl,rfl,rfl,rfl,rfl,Ac⟩ ?_
   refine l_call [] [] 38 #[.slice (some ⟨n43+1,0,none⟩) 3 3] (some 82) Ac ?_
   intro w53 hw53
   refine(O7 w53 ⟨some ⟨n43+1,0,none⟩,3,([y52.Kind,y52.Words,y52.Ei]:List Int)⟩ (Un (hw53.at (i:=4) rfl) rfl (by simp) (by simp))).mono ?_
   rintro e w54 ⟨rfl,hkw54⟩
   have hnw54:n43+2≤w54.heap.size:=AB hw53 hkw54
   refine⟨_,_,rfl,hw53.keeps hkw54, ?_⟩
   refine DX [1,66,67,82] [(1,pt z),(Ql c),(67,Ae k),(82,.bool (([y52.Kind,y52.Words,y52.Ei]:List Int).all CU))] ?_
   by_cases h55:(([y52.Kind,y52.Words,y52.Ei]:List Int).all CU)=true
   ·refine AC 8 0 [0] [[(ov (.bool false))],[(ov (i6 ((k+1:Nat):Int))),o0]] [Value.bool (!(([y52.Kind,y52.Words,y52.Ei]:List Int).all CU))=Value.bool false,Wr ((k:Int)+1) (((k+1:Nat):Int))] [(1,pt z),(Ql c),(67,i6 ((k+1:Nat):Int))] rfl ⟨by simp[h55],Bq,Ac⟩ ?_
    refine CG [0,1,2] [(A8 w),(NL z c),(Pq z c)] rfl rfl ?_
    refine Ce [1,66,67] [(1,pt z),(Ql c),(67,i6 ((k+1:Nat):Int))] ?_
    refine BB (fun a w' hs=>⟨c.Ah.xs.length - (k+1),by omega,w54.heap.size,(k+1),rfl,by omega,by omega,Hw hok3 (by rw[←hy52,okC_is];exact h55),hs⟩)
   refine AC 8 0 [1] [[(ov (.bool true))],[o0]] [Value.bool (!(([y52.Kind,y52.Words,y52.Ei]:List Int).all CU))=Value.bool true] [(2,.bool false)] rfl ⟨by simp[h55],Ac⟩ ?_
   refine AU [] [] (.bool false) Ac ?_
   intro w56 hw56
   exact⟨congrArg (fun b=>Ending.returned (Value.bool b)) (Eq.symm (by unfold FQ;rw[Jq (ok:=MS) (xs:=c.Ah.xs) (i:=k) (by omega) (by rw[←hy52];rw[okC_is];exact Bool.eq_false_iff.2 h55)];simp)),A7 hw56⟩
  refine Aw 15 0 [0] [[oF],[o0]] [BF ((k:Int)<(c.Ah.xs.length:Int))] [(2,.bool true)] rfl ⟨bf,Ac⟩ ?_
  refine AU [] [] (.bool true) Ac ?_
  intro w57 hw57
  exact⟨congrArg (fun b=>Ending.returned (Value.bool b)) (Eq.symm (by unfold FQ;rw[show(EU c).all CU=true from h9,Kw (ok:=Kr) (xs:=c.Aj.xs) (by omega) (fun q hq=>hok1 q (by omega)),Kw (ok:=FT) (xs:=c.Aa.xs) (by omega) (fun q hq=>hok2 q (by omega)),Kw (ok:=MS) (xs:=c.Ah.xs) (by omega) (fun q hq=>hok3 q (by omega))];rfl)),A7 hw57⟩
 refine AC 8 0 [1] [[(ov (.bool true)),o0],[o0]] [Value.bool (!(([c.Frames,c.AX,c.Kernel,c.Room]:List Int).all CU))=Value.bool true] [(2,.bool false)] rfl ⟨by simp[h9],Ac⟩ ?_
 refine AU [] [] (.bool false) Ac ?_
 intro w58 hw58
 exact⟨congrArg (fun b=>Ending.returned (Value.bool b)) (Eq.symm (by unfold FQ;rw[show(EU c).all CU=false from Bool.eq_false_iff.2 h9];simp)),A7 hw58⟩
def dv(n:Int)(j:Nat):Int:=n / 256 ^ j
theorem dv_succ(n:Int)(j:Nat):dv n (j+1)=dv n j / 256:=div_pow n j
theorem dv_bd{n:Int}(h:0≤n)(j:Nat):0≤dv n j∧dv n j≤n:=⟨Int.ediv_nonneg h (Int.le_of_lt (Int.pow_pos (by decide))),Int.ediv_le_self _ h⟩
def PD(w:World)(n0:Nat)(v:Value)(ys:List Int)(e:Ending)(w':World):Prop :=
 ∃ a2 cap2,e = .returned (.slice a2 ys.length cap2)∧w'.ownsRow n0 5 1 (.slice a2 ys.length cap2) ys.length (ys.flatMap Bh)∧(∀ b,(Value.slice a2 ys.length cap2).ownBlock=some b→v.ownBlock=some b∨w.heap.size≤b)∧AV (fun b=>v.ownBlock=some b) w w'
theorem sat_row{w:World}{α:Type}{n0:Nat}{e:TypeId}{sz:Nat}{cells:α→List Value}{v:Value}{xs:List α}(ho:w.ownsRow n0 e sz v xs.length (xs.flatMap cells)):Sat ⟨w,w.heap.size,[old (fun b=>v.ownBlock=some b) w,Au n0 e sz cells v xs]⟩ w :=
 LM w _ _ (fun c hc=>by
  simp only[List.mem_singleton]at hc;subst hc
  exact⟨ho,D9 _ _ _ _ _ _,fun b hb=>⟨(ho.lt b hb).2,hb⟩⟩) (by simp)
theorem row_end{A:AW}{w w':World}{n0 j:Nat}{v:Value}{a2:Option Addr}{cap2:Nat}{ys:List Int}(hW:Sat A w')(hw0:A.w0=w)(hn:w.heap.size≤A.n)(h0:A.σ[0]? = some (old (fun b=>v.ownBlock=some b) w))(hj:A.σ[j]? = some (Au n0 5 1 Bh (.slice a2 ys.length cap2) ys))(hj0:j≠0):PD w n0 v ys (.returned (.slice a2 ys.length cap2)) w':=by
 have ho:w'.ownsRow n0 5 1 (.slice a2 ys.length cap2) ys.length (ys.flatMap Bh):=hW.at hj
 exact⟨a2,cap2,rfl,ho,fun b hb=>(QV hW h0 hj rfl hj0 b hb).elim .inl (fun x=> .inr x.1),hW.back hw0 hn (List.mem_of_getElem? h0)⟩
theorem Eb{A:AW}{w w':World}{i n0:Nat}{v:Value}{bs ys:List Int}{e:Ending}(h:Sat A w)(hi:A.σ[i]? = some (Au n0 5 1 Bh v bs))(hp:PD w n0 v ys e w'):∃ a2 cap2,e = .returned (.slice a2 ys.length cap2)∧A.n≤w'.heap.size∧Sat { A with n:=w'.heap.size,σ:=A.σ.set i (Au n0 5 1 Bh (.slice a2 ys.length cap2) ys) } w':=by
 obtain⟨a2,cap2,rfl,ho,hat,hk⟩:=hp
 exact⟨a2,cap2,rfl,AB h hk,h.QB hi rfl rfl hk ho (D9 _ _ _ _ _ _) hat (fun b hb=>(ho.lt b hb).2)⟩
theorem sat_rowM{w:World}{n0:Nat}{v:Value}{xs:List Int}(ho:(LJ n0 5 1 Bh 0 v xs).holds w):Sat ⟨w,w.heap.size,[old (fun b=>v.ownBlock=some b) w,LJ n0 5 1 Bh 0 v xs]⟩ w :=
 LM w _ _ (fun c hc=>by
  simp only[List.mem_singleton]at hc;subst hc
  refine⟨ho,SY _ _ _ _ _ _ _,fun b hb=>⟨?_,hb⟩⟩
  have hb':v.ownBlock=some b:=hb
  rcases ho with h | ⟨-, -,g,cs,fr,hv, -,hg, -⟩
  ·exact(h.lt b hb').2
  rw[hv]at hb'
  simp only[Value.ownBlock,Option.some.injEq]at hb'
  subst hb'
  exact(Array.getElem?_eq_some_iff.1 hg).1) (by simp)
theorem rowM_end{A:AW}{w w':World}{n0 j k:Nat}{v:Value}{a2:Option Addr}{cap2:Nat}{ys:List Int}(hW:Sat A w')(hw0:A.w0=w)(hn:w.heap.size≤A.n)(h0:A.σ[0]? = some (old (fun b=>v.ownBlock=some b) w))(hj:A.σ[j]? = some (LJ n0 5 1 Bh k (.slice a2 ys.length cap2) ys))(hj0:j≠0)(hk:k≠0):PD w n0 v ys (.returned (.slice a2 ys.length cap2)) w':=by
 have ho:w'.ownsRow n0 5 1 (.slice a2 ys.length cap2) ys.length (ys.flatMap Bh):=rowM_own (hW.at hj) hk
 exact⟨a2,cap2,rfl,ho,fun b hb=>(QV hW h0 hj rfl hj0 b hb).elim .inl (fun x=> .inr x.1),hW.back hw0 hn (List.mem_of_getElem? h0)⟩
theorem rowpostM_sat{A:AW}{w w':World}{i n0:Nat}{v:Value}{bs ys:List Int}{e:Ending}(h:Sat A w)(hi:A.σ[i]? = some (LJ n0 5 1 Bh 0 v bs))(hp:PD w n0 v ys e w'):∃ a2 cap2,e = .returned (.slice a2 ys.length cap2)∧A.n≤w'.heap.size∧Sat { A with n:=w'.heap.size,σ:=A.σ.set i (Au n0 5 1 Bh (.slice a2 ys.length cap2) ys) } w':=by
 obtain⟨a2,cap2,rfl,ho,hat,hk⟩:=hp
 exact⟨a2,cap2,rfl,AB h hk,h.QB hi rfl rfl hk ho (D9 _ _ _ _ _ _) hat (fun b hb=>(ho.lt b hb).2)⟩
theorem Zad{p:Ag}(h:FT p=true):p.Name.size≤255∧(0≤p.Entry∧p.Entry≤4294967295)∧(0≤p.AP∧p.AP≤4294967295)∧(0≤p.AA∧p.AA≤4294967295)∧(0≤p.AQ∧p.AQ≤4294967295)∧(0≤p.AL∧p.AL≤4294967295)∧p.Ad.xs.length≤255∧p.Ai.xs.length≤255∧(∀ q,q<p.Ad.xs.length→okR (gd p.Ad.xs q)=true)∧(∀ q,q<p.Ai.xs.length→O3 (gd p.Ai.xs q)=true):=by
 unfold FT at h
 simp only[Bool.and_eq_true,decide_eq_true_eq]at h
 obtain⟨⟨⟨h1,h2⟩,h3⟩,h4⟩:=h
 have h5:∀ n∈KF p,0≤n∧n≤4294967295:=fun n hn=>Ha (List.all_eq_true.1 h2 n hn)
 have h6:=J8 h3
 have h7:=J8 h4
 unfold E5 at h3 h4
 simp only[Bool.and_eq_true,List.all_eq_true]at h3 h4
 exact⟨h1,h5 _ (by simp[KF]),h5 _ (by simp[KF]),h5 _ (by simp[KF]),h5 _ (by simp[KF]),h5 _ (by simp[KF]),h6,h7,fun q hq=>h3.2 _ (by rw[Di hq];exact List.getElem_mem hq),fun q hq=>h4.2 _ (by rw[Di hq];exact List.getElem_mem hq)⟩
theorem okR_has{y:Ak}(h:okR y=true):(0≤y.Ed∧y.Ed≤4294967295)∧(0≤y.Dz∧y.Dz≤4294967295)∧(0≤y.Frame∧y.Frame≤4294967295)∧(0≤y.CX∧y.CX≤4294967295):=by
 unfold okR at h
 simp only[Bool.and_eq_true]at h
 exact⟨Ha h.1.1.1,Ha h.1.1.2,Ha h.1.2,Ha h.2⟩
theorem okP_has{y:Ap}(h:O3 y=true):0≤y.Channel∧y.Channel≤4294967295:=Ha h
theorem okC_has{y:Ar}(h:MS y=true):(0≤y.Kind∧y.Kind≤4294967295)∧(0≤y.Words∧y.Words≤4294967295)∧(0≤y.Ei∧y.Ei≤4294967295):=by
 unfold MS at h
 simp only[Bool.and_eq_true]at h
 exact⟨Ha h.1.1,Ha h.1.2,Ha h.2⟩
theorem encP_yes{y:Ap}(h:y.Source=true):EI y=leB y.Channel 4++[1]:=by unfold EI;rw[h];rfl
theorem encP_no{y:Ap}(h:¬ y.Source=true):EI y=leB y.Channel 4++[0]:=by unfold EI;rw[Bool.eq_false_iff.2 h];rfl
theorem DD(w:World)(n0:Nat)(ad:Option Addr)(cap:Nat)(bs:List Int)(n:Int)(hn:0≤n∧n≤4294967295)(hl:bs.length+4≤2147483647)(hn0:n0≤w.heap.size)(ho:w.ownsRow n0 5 1 (.slice ad bs.length cap) bs.length (bs.flatMap Bh)):Calls Try.prog 41 #[.slice ad bs.length cap,.int .i64 n] w fun e w'=>PD w n0 (.slice ad bs.length cap) (bs++leB n 4) e w':=by
 obtain⟨z,hz⟩:∃ z,z=w.heap.size:=⟨_,rfl⟩
 refine Bc (args:=[.slice ad bs.length cap,i6 n]) 17 ⟨w,z,[(old (fun b=>(Value.slice ad bs.length cap).ownBlock=some b) w),(Au n0 5 1 Bh (.slice ad bs.length cap) bs)]⟩ Try.func41 rfl (by kernel_rfl) (by kernel_rfl) (hz ▸ sat_row ho) ?_
 refine Bj [0,1] [(0,.slice ad bs.length cap),(1,i6 n)] ?_
 refine Aw 10 0 [] [[o0],[o0]] [] [(0,.slice ad bs.length cap),(1,i6 n),(5,i6 0)] rfl Ac ?_
 refine Bl (fun m a w'=>∃ (n2:Nat) (j:Nat) (aB:Option Addr) (cB:Nat),m=4 - j∧z≤n2∧(j≤4)∧St 17 [(0,.slice aB ((bs++leB n j).length) cB),(1,i6 (dv n j)),(5,Ae j)] [] ⟨w,n2,[(old (fun b=>(Value.slice ad bs.length cap).ownBlock=some b) w),(Au n0 5 1 Bh (.slice aB ((bs++leB n j).length) cB) (bs++leB n j))]⟩ a w') (4 - 0) ?_ ?_
 ·intro a w' hs;exact⟨z,0,ad,cap,rfl,Nat.le_refl _,Nat.zero_le _,by rw[show leB n 0=[]from rfl,List.append_nil,show dv n 0=n from by unfold dv;rw[Int.pow_zero,Int.ediv_one]];exact hs⟩
 rintro m a w' ⟨n2,j,aB,cB,rfl,hn1,hkj,hs⟩
 refine(?_:G Try.prog 17 [(0,.slice aB ((bs++leB n j).length) cB),(1,i6 (dv n j)),(5,Ae j)] [] ⟨w,n2,[(old (fun b=>(Value.slice ad bs.length cap).ownBlock=some b) w),(Au n0 5 1 Bh (.slice aB ((bs++leB n j).length) cB) (bs++leB n j))]⟩ _ _ _) a w' hs
 clear hs a w'
 have hll:=AY n j;have hdv:=dv_bd hn.1 j;have hlb:(bs++leB n j).length=bs.length+j:=by rw[List.length_append,hll]
 refine Bi ?_
 by_cases h3:(j:Int)<4
 ·refine q_c 11 5 [1] [[oT],[o0,o0,(ov (i6 ((dv n j) % 256))),(ov (.int .u8 ((dv n j) % 256))),o0]] [BT ((j:Int)<4),i6 (Int.tmod ((dv n j)) 256)=i6 ((dv n j) % 256),Value.int .u8 (IntKind.u8.wrap ((dv n j) % 256))=Value.int .u8 ((dv n j) % 256)] [(1,i6 (dv n j)),(5,Ae j),(7,.slice aB ((bs++leB n j).length) cB),(11,.slice (some ⟨n2,0,none⟩) 1 1)] ⟨w,n2+1,[(old (fun b=>(Value.slice ad bs.length cap).ownBlock=some b) w),(Au n0 5 1 Bh (.slice aB ((bs++leB n j).length) cB) (bs++leB n j)),(bk n2 #[.int .u8 ((dv n j) % 256)] 5)]⟩ rfl ⟨bt,congrArg (Value.int .i64) (VQ (by omega) (by omega)),congrArg (Value.int .u8) (LP rfl (by omega) (by omega)),Ac⟩ ?_
  refine E8 n0 1 2 (bs++leB n j) [(dv n j) % 256] Bh 5 1 1 (.slice aB ((bs++leB n j).length) cB) n2 1 1 #[.int .u8 ((dv n j) % 256)] 5 (0,0) true (some 12) (by first | omega | (simp only[List.length_append,AY,CV,List.length_cons,List.length_nil];omega)) (show n0≤n2+1 by omega) (fun ax4 cp5 n6 (hn7:n2+1≤n6) => ?_)
  refine AC 8 0 [] [[o0],[o0,(ov (i6 ((dv n j) / 256))),o0],[(ov (i6 ((j+1:Nat):Int))),o0]] [Wr (Int.tdiv ((dv n j)) 256) ((dv n j) / 256),Wr ((j:Int)+1) (((j+1:Nat):Int))] [(1,i6 ((dv n j) / 256)),(5,i6 ((j+1:Nat):Int)),(0,.slice ax4 ((bs++leB n j++[(dv n j) % 256]).length) cp5)] rfl ⟨congrArg (Value.int .i64) (wr_div (by omega) (by omega) (by omega)),Bq,Ac⟩ ?_
  refine CG [0,1] [(old (fun b=>(Value.slice ad bs.length cap).ownBlock=some b) w),(Au n0 5 1 Bh (.slice ax4 ((bs++leB n j++[(dv n j) % 256]).length) cp5) (bs++leB n j++[(dv n j) % 256]))] rfl rfl ?_
  refine Ce [0,1,5] [(0,.slice ax4 ((bs++leB n j++[(dv n j) % 256]).length) cp5),(1,i6 ((dv n j) / 256)),(5,i6 ((j+1:Nat):Int))] ?_
  refine BB (fun a w' hs=>⟨4 - (j+1),by omega,n6,(j+1),ax4,cp5,rfl,by omega,by omega,by rw[dv_succ,WQ,←List.append_assoc];exact hs⟩)
 refine Aw 15 0 [0] [[oF],[o0,o0]] [BF ((j:Int)<4)] [(4,.slice aB ((bs++leB n j).length) cB)] rfl ⟨bf,Ac⟩ ?_
 refine AU [] [] (.slice aB ((bs++leB n j).length) cB) Ac ?_
 intro w8 hw8
 have hD:=row_end hw8 rfl (show w.heap.size≤n2 by omega) rfl (j:=1) rfl (by decide)
 have hj4:j=4:=by omega
 rw[hj4]at hD ⊢
 exact hD
theorem Y1(w:World)(n0:Nat)(ad:Option Addr)(cap:Nat)(bs:List Int)(n:Int)(hn:0≤n∧n≤4294967295)(hl:bs.length+4≤2147483647)(hn0:n0≤w.heap.size)(ho:(LJ n0 5 1 Bh 0 (.slice ad bs.length cap) bs).holds w):Calls Try.prog 41 #[.slice ad bs.length cap,.int .i64 n] w fun e w'=>PD w n0 (.slice ad bs.length cap) (bs++leB n 4) e w':=by
 obtain⟨z,hz⟩:∃ z,z=w.heap.size:=⟨_,rfl⟩
 refine Bc (args:=[.slice ad bs.length cap,i6 n]) 17 ⟨w,z,[(old (fun b=>(Value.slice ad bs.length cap).ownBlock=some b) w),(LJ n0 5 1 Bh 0 (.slice ad bs.length cap) bs)]⟩ Try.func41 rfl (by kernel_rfl) (by kernel_rfl) (hz ▸ sat_rowM ho) ?_
 refine Bj [0,1] [(0,.slice ad bs.length cap),(1,i6 n)] ?_
 refine Aw 10 0 [] [[o0],[o0]] [] [(0,.slice ad bs.length cap),(1,i6 n),(5,i6 0)] rfl Ac ?_
 refine Bl (fun m a w'=>∃ (n2:Nat) (j:Nat) (aB:Option Addr) (cB:Nat),m=4 - j∧z≤n2∧(j≤4)∧St 17 [(0,.slice aB ((bs++leB n j).length) cB),(1,i6 (dv n j)),(5,Ae j)] [] ⟨w,n2,[(old (fun b=>(Value.slice ad bs.length cap).ownBlock=some b) w),(LJ n0 5 1 Bh j (.slice aB ((bs++leB n j).length) cB) (bs++leB n j))]⟩ a w') (4 - 0) ?_ ?_
 ·intro a w' hs;exact⟨z,0,ad,cap,rfl,Nat.le_refl _,Nat.zero_le _,by rw[show leB n 0=[]from rfl,List.append_nil,show dv n 0=n from by unfold dv;rw[Int.pow_zero,Int.ediv_one]];exact hs⟩
 rintro m a w' ⟨n2,j,aB,cB,rfl,hn1,hkj,hs⟩
 refine(?_:G Try.prog 17 [(0,.slice aB ((bs++leB n j).length) cB),(1,i6 (dv n j)),(5,Ae j)] [] ⟨w,n2,[(old (fun b=>(Value.slice ad bs.length cap).ownBlock=some b) w),(LJ n0 5 1 Bh j (.slice aB ((bs++leB n j).length) cB) (bs++leB n j))]⟩ _ _ _) a w' hs
 clear hs a w'
 have hll:=AY n j;have hdv:=dv_bd hn.1 j;have hlb:(bs++leB n j).length=bs.length+j:=by rw[List.length_append,hll]
 refine Bi ?_
 by_cases h3:(j:Int)<4
 ·refine q_c 11 5 [1] [[oT],[o0,o0,(ov (i6 ((dv n j) % 256))),(ov (.int .u8 ((dv n j) % 256))),o0]] [BT ((j:Int)<4),i6 (Int.tmod ((dv n j)) 256)=i6 ((dv n j) % 256),Value.int .u8 (IntKind.u8.wrap ((dv n j) % 256))=Value.int .u8 ((dv n j) % 256)] [(1,i6 (dv n j)),(5,Ae j),(7,.slice aB ((bs++leB n j).length) cB),(11,.slice (some ⟨n2,0,none⟩) 1 1)] ⟨w,n2+1,[(old (fun b=>(Value.slice ad bs.length cap).ownBlock=some b) w),(LJ n0 5 1 Bh j (.slice aB ((bs++leB n j).length) cB) (bs++leB n j)),(bk n2 #[.int .u8 ((dv n j) % 256)] 5)]⟩ rfl ⟨bt,congrArg (Value.int .i64) (VQ (by omega) (by omega)),congrArg (Value.int .u8) (LP rfl (by omega) (by omega)),Ac⟩ ?_
  refine l_pushM n0 1 2 j (bs++leB n j) [(dv n j) % 256] Bh 5 1 1 (.slice aB ((bs++leB n j).length) cB) n2 1 1 #[.int .u8 ((dv n j) % 256)] 5 (0,0) true (some 12) (by first | omega | (simp only[List.length_append,AY,CV,List.length_cons,List.length_nil];omega)) (show n0≤n2+1 by omega) (fun ax4 cp5 n6 (hn7:n2+1≤n6) => ?_)
  refine AC 8 0 [] [[o0],[o0,(ov (i6 ((dv n j) / 256))),o0],[(ov (i6 ((j+1:Nat):Int))),o0]] [Wr (Int.tdiv ((dv n j)) 256) ((dv n j) / 256),Wr ((j:Int)+1) (((j+1:Nat):Int))] [(1,i6 ((dv n j) / 256)),(5,i6 ((j+1:Nat):Int)),(0,.slice ax4 ((bs++leB n j++[(dv n j) % 256]).length) cp5)] rfl ⟨congrArg (Value.int .i64) (wr_div (by omega) (by omega) (by omega)),Bq,Ac⟩ ?_
  refine CG [0,1] [(old (fun b=>(Value.slice ad bs.length cap).ownBlock=some b) w),(LJ n0 5 1 Bh (j+1) (.slice ax4 ((bs++leB n j++[(dv n j) % 256]).length) cp5) (bs++leB n j++[(dv n j) % 256]))] rfl rfl ?_
  refine Ce [0,1,5] [(0,.slice ax4 ((bs++leB n j++[(dv n j) % 256]).length) cp5),(1,i6 ((dv n j) / 256)),(5,i6 ((j+1:Nat):Int))] ?_
  refine BB (fun a w' hs=>⟨4 - (j+1),by omega,n6,(j+1),ax4,cp5,rfl,by omega,by omega,by rw[dv_succ,WQ,←List.append_assoc];exact hs⟩)
 refine Aw 15 0 [0] [[oF],[o0,o0]] [BF ((j:Int)<4)] [(4,.slice aB ((bs++leB n j).length) cB)] rfl ⟨bf,Ac⟩ ?_
 refine AU [] [] (.slice aB ((bs++leB n j).length) cB) Ac ?_
 intro w8 hw8
 have hj4:j=4:=by omega
 have hD:=rowM_end hw8 rfl (show w.heap.size≤n2 by omega) rfl (j:=1) rfl (by decide) (by omega)
 rw[hj4]at hD ⊢
 exact hD
section
variable (w28:World)(p:Ag)(n34 z n0:Nat)(ax76:Option Addr)(bs:List Int)(i k:Nat)(y74:Ap)(cp77:Nat)(aP:Option Addr)(cP:Nat)(aR:Option Addr)(cR:Nat)(ax80:Option Addr)(cp81:Nat)(ax84:Option Addr)(cp85:Nat)
abbrev JK:Ch:= .blk w28.heap.size (.cells #[.int .u8 (p.Ad.xs.length:Int)] 5 (0,0)) true
abbrev NG:=bk n34 #[.int .u8 (p.Ai.xs.length:Int)] 5
abbrev J3:=bk z (Ag.arr p) 47
abbrev Yg:=Au n0 5 1 Bh (.slice ax76 (((((((((((bs++leB (p.Name.size:Int) 4)++Ci p.Name)++leB p.Entry 4)++leB p.AP 4)++leB p.AA 4)++leB p.AQ 4)++leB p.AL 4)++[(p.Ad.xs.length:Int)])++(p.Ad.xs.take i).flatMap encR++[(p.Ai.xs.length:Int)])++(p.Ai.xs.take k).flatMap EI++leB y74.Channel 4).length) cp77) ((((((((((bs++leB (p.Name.size:Int) 4)++Ci p.Name)++leB p.Entry 4)++leB p.AP 4)++leB p.AA 4)++leB p.AQ 4)++leB p.AL 4)++[(p.Ad.xs.length:Int)])++(p.Ad.xs.take i).flatMap encR++[(p.Ai.xs.length:Int)])++(p.Ai.xs.take k).flatMap EI++leB y74.Channel 4)
abbrev UT:=Au n0 5 1 Bh (.slice aP (((((((((((bs++leB (p.Name.size:Int) 4)++Ci p.Name)++leB p.Entry 4)++leB p.AP 4)++leB p.AA 4)++leB p.AQ 4)++leB p.AL 4)++[(p.Ad.xs.length:Int)])++(p.Ad.xs.take i).flatMap encR++[(p.Ai.xs.length:Int)])++(p.Ai.xs.take k).flatMap EI).length) cP) ((((((((((bs++leB (p.Name.size:Int) 4)++Ci p.Name)++leB p.Entry 4)++leB p.AP 4)++leB p.AA 4)++leB p.AQ 4)++leB p.AL 4)++[(p.Ad.xs.length:Int)])++(p.Ad.xs.take i).flatMap encR++[(p.Ai.xs.length:Int)])++(p.Ai.xs.take k).flatMap EI)
abbrev Qi:=Au n0 5 1 Bh (.slice aR ((((((((((bs++leB (p.Name.size:Int) 4)++Ci p.Name)++leB p.Entry 4)++leB p.AP 4)++leB p.AA 4)++leB p.AQ 4)++leB p.AL 4)++[(p.Ad.xs.length:Int)])++(p.Ad.xs.take i).flatMap encR).length) cR) (((((((((bs++leB (p.Name.size:Int) 4)++Ci p.Name)++leB p.Entry 4)++leB p.AP 4)++leB p.AA 4)++leB p.AQ 4)++leB p.AL 4)++[(p.Ad.xs.length:Int)])++(p.Ad.xs.take i).flatMap encR)
abbrev XG:EM:=(0,.slice ax80 ((((((((((((bs++leB (p.Name.size:Int) 4)++Ci p.Name)++leB p.Entry 4)++leB p.AP 4)++leB p.AA 4)++leB p.AQ 4)++leB p.AL 4)++[(p.Ad.xs.length:Int)])++(p.Ad.xs.take i).flatMap encR++[(p.Ai.xs.length:Int)])++(p.Ai.xs.take k).flatMap EI++leB y74.Channel 4)++[1]).length) cp81)
abbrev ZV:EM:=(0,.slice ax84 ((((((((((((bs++leB (p.Name.size:Int) 4)++Ci p.Name)++leB p.Entry 4)++leB p.AP 4)++leB p.AA 4)++leB p.AQ 4)++leB p.AL 4)++[(p.Ad.xs.length:Int)])++(p.Ad.xs.take i).flatMap encR++[(p.Ai.xs.length:Int)])++(p.Ai.xs.take k).flatMap EI++leB y74.Channel 4)++[0]).length) cp85)
abbrev X4:EM:=(110,.slice ax76 (((((((((((bs++leB (p.Name.size:Int) 4)++Ci p.Name)++leB p.Entry 4)++leB p.AP 4)++leB p.AA 4)++leB p.AQ 4)++leB p.AL 4)++[(p.Ad.xs.length:Int)])++(p.Ad.xs.take i).flatMap encR++[(p.Ai.xs.length:Int)])++(p.Ai.xs.take k).flatMap EI++leB y74.Channel 4).length) cp77)
abbrev Tj:EM:=(0,.slice aP (((((((((((bs++leB (p.Name.size:Int) 4)++Ci p.Name)++leB p.Entry 4)++leB p.AP 4)++leB p.AA 4)++leB p.AQ 4)++leB p.AL 4)++[(p.Ad.xs.length:Int)])++(p.Ad.xs.take i).flatMap encR++[(p.Ai.xs.length:Int)])++(p.Ai.xs.take k).flatMap EI).length) cP)
abbrev OG:EM:=(0,.slice aR ((((((((((bs++leB (p.Name.size:Int) 4)++Ci p.Name)++leB p.Entry 4)++leB p.AP 4)++leB p.AA 4)++leB p.AQ 4)++leB p.AL 4)++[(p.Ad.xs.length:Int)])++(p.Ad.xs.take i).flatMap encR).length) cR)
abbrev Jt:=(46,Ae p.Ad.xs.length)
abbrev IX:=(92,Ae p.Ai.xs.length)
end
theorem WT(w:World)(n0:Nat)(ad:Option Addr)(cap:Nat)(bs:List Int)(p:Ag)(hp:Ag.ok (Dt w (fun b=>(Value.slice ad bs.length cap).ownBlock=some b)) w p)(hok:FT p=true)(hl:bs.length+7000≤2147483647)(hn0:n0≤w.heap.size)(ho:w.ownsRow n0 5 1 (.slice ad bs.length cap) bs.length (bs.flatMap Bh)):Calls Try.prog 43 #[.slice ad bs.length cap,.agg (Ag.arr p)] w fun e w'=>PD w n0 (.slice ad bs.length cap) (bs++encPt p) e w':=by
 obtain⟨z,hz⟩:∃ z,z=w.heap.size:=⟨_,rfl⟩
 refine Bc (args:=[.slice ad bs.length cap,.agg (Ag.arr p)]) 116 ⟨w,z,[(old (fun b=>(Value.slice ad bs.length cap).ownBlock=some b) w),(Au n0 5 1 Bh (.slice ad bs.length cap) bs)]⟩ Try.func43 rfl (by kernel_rfl) (by kernel_rfl) (hz ▸ sat_row ho) ?_
 obtain⟨hnm,⟨hn1,hn2⟩,⟨hn3,hn4⟩,⟨hn5,hn6⟩,⟨hn7,hn8⟩,⟨hn9,hn10⟩,hrn,hpn,hRs,hPs⟩:=Zad hok
 refine Bj [0,1] [(0,.slice ad bs.length cap),(1,.agg (Ag.arr p))] ?_
 refine q_c 6 4 [] [[o0,o0],[o0,o0,(a1 2),o0]] [Qb z] [(3,pt z),(8,.slice ad bs.length cap),(11,Ae p.Name.size)] ⟨w,z+1,[(old (fun b=>(Value.slice ad bs.length cap).ownBlock=some b) w),(Au n0 5 1 Bh (.slice ad bs.length cap) bs),(J3 p z)]⟩ rfl ⟨rfl,Ac⟩ ?_
 refine l_call [] [] 41 #[.slice ad bs.length cap,Ae p.Name.size] (some 12) Ac ?_
 intro w1 hw1
 refine(DD w1 n0 ad cap bs (p.Name.size:Int) (by omega) (by first | omega | (simp only[List.length_append,AY,CV,List.length_cons,List.length_nil];omega)) (Nat.le_trans (show n0≤z+1 by omega) (Nat.le_of_eq hw1.size.symm)) (hw1.at (i:=1) rfl)).mono ?_
 intro e w4 hpw4
 obtain⟨ax2,cp3,rfl,hmw4,hSw4⟩:=Eb hw1 (i:=1) rfl hpw4;have hnw4:z+1≤w4.heap.size:=hmw4
 refine⟨_,_,rfl,hSw4, ?_⟩
 refine AC 4 3 [] [[o0],[o0,o0,(a1 2)]] [Qb z] [(3,pt z),(13,.slice ax2 ((bs++leB (p.Name.size:Int) 4).length) cp3),(15,.string p.Name)] rfl ⟨rfl,Ac⟩ ?_
 refine l_pushStr n0 1 (bs++leB (p.Name.size:Int) 4) 5 (.slice ax2 ((bs++leB (p.Name.size:Int) 4).length) cp3) p.Name (some 16) (by first | omega | (simp only[List.length_append,AY,CV,List.length_cons,List.length_nil];omega)) (show n0≤w4.heap.size by omega) (fun ax5 cp6 n7 (hn8:w4.heap.size≤n7) => ?_)
 refine AC 4 3 [] [[o0],[o0,o0,(a1 2)]] [Qb z] [(3,pt z),(17,.slice ax5 (((bs++leB (p.Name.size:Int) 4)++Ci p.Name).length) cp6),(19,i6 p.Entry)] rfl ⟨rfl,Ac⟩ ?_
 refine l_call [] [] 41 #[.slice ax5 (((bs++leB (p.Name.size:Int) 4)++Ci p.Name).length) cp6,i6 p.Entry] (some 20) Ac ?_
 intro w9 hw9
 refine(DD w9 n0 ax5 cp6 ((bs++leB (p.Name.size:Int) 4)++Ci p.Name) p.Entry (by omega) (by first | omega | (simp only[List.length_append,AY,CV,List.length_cons,List.length_nil];omega)) (Nat.le_trans (show n0≤n7 by omega) (Nat.le_of_eq hw9.size.symm)) (hw9.at (i:=1) rfl)).mono ?_
 intro e w12 hpw12
 obtain⟨ax10,cp11,rfl,hmw12,hSw12⟩:=Eb hw9 (i:=1) rfl hpw12;have hnw12:n7≤w12.heap.size:=hmw12
 refine⟨_,_,rfl,hSw12, ?_⟩
 refine AC 4 3 [] [[o0],[o0,o0,(a1 2)]] [Qb z] [(3,pt z),(21,.slice ax10 ((((bs++leB (p.Name.size:Int) 4)++Ci p.Name)++leB p.Entry 4).length) cp11),(23,i6 p.AP)] rfl ⟨rfl,Ac⟩ ?_
 refine l_call [] [] 41 #[.slice ax10 ((((bs++leB (p.Name.size:Int) 4)++Ci p.Name)++leB p.Entry 4).length) cp11,i6 p.AP] (some 24) Ac ?_
 intro w13 hw13
 refine(DD w13 n0 ax10 cp11 (((bs++leB (p.Name.size:Int) 4)++Ci p.Name)++leB p.Entry 4) p.AP (by omega) (by first | omega | (simp only[List.length_append,AY,CV,List.length_cons,List.length_nil];omega)) (Nat.le_trans (show n0≤w12.heap.size by omega) (Nat.le_of_eq hw13.size.symm)) (hw13.at (i:=1) rfl)).mono ?_
 intro e w16 hpw16
 obtain⟨ax14,cp15,rfl,hmw16,hSw16⟩:=Eb hw13 (i:=1) rfl hpw16;have hnw16:w12.heap.size≤w16.heap.size:=hmw16
 refine⟨_,_,rfl,hSw16, ?_⟩
 refine AC 4 3 [] [[o0],[o0,o0,(a1 2)]] [Qb z] [(3,pt z),(25,.slice ax14 (((((bs++leB (p.Name.size:Int) 4)++Ci p.Name)++leB p.Entry 4)++leB p.AP 4).length) cp15),(27,i6 p.AA)] rfl ⟨rfl,Ac⟩ ?_
 refine l_call [] [] 41 #[.slice ax14 (((((bs++leB (p.Name.size:Int) 4)++Ci p.Name)++leB p.Entry 4)++leB p.AP 4).length) cp15,i6 p.AA] (some 28) Ac ?_
 intro w17 hw17
 refine(DD w17 n0 ax14 cp15 ((((bs++leB (p.Name.size:Int) 4)++Ci p.Name)++leB p.Entry 4)++leB p.AP 4) p.AA (by omega) (by first | omega | (simp only[List.length_append,AY,CV,List.length_cons,List.length_nil];omega)) (Nat.le_trans (show n0≤w16.heap.size by omega) (Nat.le_of_eq hw17.size.symm)) (hw17.at (i:=1) rfl)).mono ?_
 intro e w20 hpw20
 obtain⟨ax18,cp19,rfl,hmw20,hSw20⟩:=Eb hw17 (i:=1) rfl hpw20;have hnw20:w16.heap.size≤w20.heap.size:=hmw20
 refine⟨_,_,rfl,hSw20, ?_⟩
 refine AC 4 3 [] [[o0],[o0,o0,(a1 2)]] [Qb z] [(3,pt z),(29,.slice ax18 ((((((bs++leB (p.Name.size:Int) 4)++Ci p.Name)++leB p.Entry 4)++leB p.AP 4)++leB p.AA 4).length) cp19),(31,i6 p.AQ)] rfl ⟨rfl,Ac⟩ ?_
 refine l_call [] [] 41 #[.slice ax18 ((((((bs++leB (p.Name.size:Int) 4)++Ci p.Name)++leB p.Entry 4)++leB p.AP 4)++leB p.AA 4).length) cp19,i6 p.AQ] (some 32) Ac ?_
 intro w21 hw21
 refine(DD w21 n0 ax18 cp19 (((((bs++leB (p.Name.size:Int) 4)++Ci p.Name)++leB p.Entry 4)++leB p.AP 4)++leB p.AA 4) p.AQ (by omega) (by first | omega | (simp only[List.length_append,AY,CV,List.length_cons,List.length_nil];omega)) (Nat.le_trans (show n0≤w20.heap.size by omega) (Nat.le_of_eq hw21.size.symm)) (hw21.at (i:=1) rfl)).mono ?_
 intro e w24 hpw24
 obtain⟨ax22,cp23,rfl,hmw24,hSw24⟩:=Eb hw21 (i:=1) rfl hpw24;have hnw24:w20.heap.size≤w24.heap.size:=hmw24
 refine⟨_,_,rfl,hSw24, ?_⟩
 refine AC 4 3 [] [[o0],[o0,o0,(a1 2)]] [Qb z] [(3,pt z),(33,.slice ax22 (((((((bs++leB (p.Name.size:Int) 4)++Ci p.Name)++leB p.Entry 4)++leB p.AP 4)++leB p.AA 4)++leB p.AQ 4).length) cp23),(35,i6 p.AL)] rfl ⟨rfl,Ac⟩ ?_
 refine l_call [] [] 41 #[.slice ax22 (((((((bs++leB (p.Name.size:Int) 4)++Ci p.Name)++leB p.Entry 4)++leB p.AP 4)++leB p.AA 4)++leB p.AQ 4).length) cp23,i6 p.AL] (some 36) Ac ?_
 intro w25 hw25
 refine(DD w25 n0 ax22 cp23 ((((((bs++leB (p.Name.size:Int) 4)++Ci p.Name)++leB p.Entry 4)++leB p.AP 4)++leB p.AA 4)++leB p.AQ 4) p.AL (by omega) (by first | omega | (simp only[List.length_append,AY,CV,List.length_cons,List.length_nil];omega)) (Nat.le_trans (show n0≤w24.heap.size by omega) (Nat.le_of_eq hw25.size.symm)) (hw25.at (i:=1) rfl)).mono ?_
 intro e w28 hpw28
 obtain⟨ax26,cp27,rfl,hmw28,hSw28⟩:=Eb hw25 (i:=1) rfl hpw28;have hnw28:w24.heap.size≤w28.heap.size:=hmw28
 refine⟨_,_,rfl,hSw28, ?_⟩
 refine Ey 4 6 [] [[o0],[o0,o0,(a1 2),o0,(ov (.int .u8 (p.Ad.xs.length:Int))),o0]] [Qb z,Value.int .u8 (IntKind.u8.wrap ((p.Ad.xs.length:Int)))=Value.int .u8 ((p.Ad.xs.length:Int))] [(3,pt z),(37,.slice ax26 ((((((((bs++leB (p.Name.size:Int) 4)++Ci p.Name)++leB p.Entry 4)++leB p.AP 4)++leB p.AA 4)++leB p.AQ 4)++leB p.AL 4).length) cp27),(42,.slice (some ⟨w28.heap.size,0,none⟩) 1 1)] ⟨w,w28.heap.size+1,[(old (fun b=>(Value.slice ad bs.length cap).ownBlock=some b) w),(Au n0 5 1 Bh (.slice ax26 ((((((((bs++leB (p.Name.size:Int) 4)++Ci p.Name)++leB p.Entry 4)++leB p.AP 4)++leB p.AA 4)++leB p.AQ 4)++leB p.AL 4).length) cp27) (((((((bs++leB (p.Name.size:Int) 4)++Ci p.Name)++leB p.Entry 4)++leB p.AP 4)++leB p.AA 4)++leB p.AQ 4)++leB p.AL 4)),(J3 p z),(JK w28 p)]⟩ rfl ⟨rfl,congrArg (Value.int .u8) (LP rfl (by omega) (by omega)),Ac⟩ ?_
 refine E8 n0 1 3 (((((((bs++leB (p.Name.size:Int) 4)++Ci p.Name)++leB p.Entry 4)++leB p.AP 4)++leB p.AA 4)++leB p.AQ 4)++leB p.AL 4) [(p.Ad.xs.length:Int)] Bh 5 1 1 (.slice ax26 ((((((((bs++leB (p.Name.size:Int) 4)++Ci p.Name)++leB p.Entry 4)++leB p.AP 4)++leB p.AA 4)++leB p.AQ 4)++leB p.AL 4).length) cp27) w28.heap.size 1 1 #[.int .u8 (p.Ad.xs.length:Int)] 5 (0,0) true (some 43) (by first | omega | (simp only[List.length_append,AY,CV,List.length_cons,List.length_nil];omega)) (show n0≤w28.heap.size+1 by omega) (fun ax29 cp30 n31 (hn32:w28.heap.size+1≤n31) => ?_)
 refine AC 8 0 [] [[o0],[o0,(a1 2),o0,o0]] [Qb z] [(0,.slice ax29 (((((((((bs++leB (p.Name.size:Int) 4)++Ci p.Name)++leB p.Entry 4)++leB p.AP 4)++leB p.AA 4)++leB p.AQ 4)++leB p.AL 4)++[(p.Ad.xs.length:Int)]).length) cp30),(3,pt z),(Jt p),(47,i6 0)] rfl ⟨rfl,Ac⟩ ?_
 refine Bl (fun m a w'=>∃ (n34:Nat) (i:Nat) (aR:Option Addr) (cR:Nat),m=p.Ad.xs.length - i∧n31≤n34∧(i≤p.Ad.xs.length)∧St 116 [(OG p bs i aR cR),(3,pt z),(Jt p),(47,Ae i)] [] ⟨w,n34,[(old (fun b=>(Value.slice ad bs.length cap).ownBlock=some b) w),(Qi p n0 bs i aR cR),(J3 p z),(JK w28 p)]⟩ a w') (p.Ad.xs.length - 0) ?_ ?_
 ·intro a w' hs;exact⟨n31,0,ax29,cp30,rfl,Nat.le_refl _,Nat.zero_le _,by(try dsimp only[JK,J3,Qi,OG,Jt]at hs ⊢);rw[List.take_zero,List.flatMap_nil,List.append_nil];exact hs⟩
 rintro m a w' ⟨n34,i,aR,cR,rfl,hn33,hki,hs⟩
 refine(?_:G Try.prog 116 [(OG p bs i aR cR),(3,pt z),(Jt p),(47,Ae i)] [] ⟨w,n34,[(old (fun b=>(Value.slice ad bs.length cap).ownBlock=some b) w),(Qi p n0 bs i aR cR),(J3 p z),(JK w28 p)]⟩ _ _ _) a w' hs
 clear hs a w'
 have hfl:=I9 (enc:=encR) (K:=16) (xs:=p.Ad.xs) i (by omega) (fun q _=>by rw[PY];exact Nat.le_refl _)
 refine Bi ?_
 by_cases h35:(i:Int)<(p.Ad.xs.length:Int)
 ·refine Aw 14 0 [1] [[oT],[o0,o0]] [BT ((i:Int)<(p.Ad.xs.length:Int))] [(OG p bs i aR cR),(3,pt z),(Jt p),(47,Ae i),(5,Ae i)] rfl ⟨bt,Ac⟩ ?_
  obtain⟨b36,o37,ha38,hF40,hc39⟩:=(hp.Ad).1.all (show 0<p.Ad.xs.length by omega)
  replace ha38:p.Ad.a=some ⟨b36,o37,none⟩:=ha38
  have hc41:=hc39 i (show i<p.Ad.xs.length by omega)
  have he42:=(hp.Ad).2 i (show i<p.Ad.xs.length by omega)
  obtain⟨y43,hy43⟩:∃ y_,y_=gd p.Ad.xs i:=⟨_,rfl⟩
  rw[←hy43]at he42 hc41
  have hyy43:=okR_has (hRs i (by omega));rw[←hy43]at hyy43;obtain⟨⟨g1y43,g2y43⟩,⟨g3y43,g4y43⟩,⟨g5y43,g6y43⟩,g7y43,g8y43⟩:=hyy43
  refine Aw 1 7 [] [[o0,o0,(DF 2 b36 o37 p.Ad),o0,(oi i),o0,(oa [.via 0 (i6 y43.Ed)])]] [Qb z,Df b36 o37 p.Ad,BK i,i<p.Ad.xs.length,BG,∀ w',Ch.holds (old (fun b=>(Value.slice ad bs.length cap).ownBlock=some b) w) w'→w'.cell? ⟨b36,o37+i*4,none⟩=some (i6 y43.Ed)] [(3,pt z),(Jt p),(47,Ae i),(5,Ae i),(50,.slice aR ((((((((((bs++leB (p.Name.size:Int) 4)++Ci p.Name)++leB p.Entry 4)++leB p.AP 4)++leB p.AA 4)++leB p.AQ 4)++leB p.AL 4)++[(p.Ad.xs.length:Int)])++(p.Ad.xs.take i).flatMap encR).length) cR),(56,i6 y43.Ed)] rfl ⟨rfl,CZ ha38,rfl,(by omega),rfl,Dk hF40 (hc41 0 _ rfl),Ac⟩ ?_
  refine l_call [] [] 41 #[.slice aR ((((((((((bs++leB (p.Name.size:Int) 4)++Ci p.Name)++leB p.Entry 4)++leB p.AP 4)++leB p.AA 4)++leB p.AQ 4)++leB p.AL 4)++[(p.Ad.xs.length:Int)])++(p.Ad.xs.take i).flatMap encR).length) cR,i6 y43.Ed] (some 57) Ac ?_
  intro w44 hw44
  refine(DD w44 n0 aR cR (((((((((bs++leB (p.Name.size:Int) 4)++Ci p.Name)++leB p.Entry 4)++leB p.AP 4)++leB p.AA 4)++leB p.AQ 4)++leB p.AL 4)++[(p.Ad.xs.length:Int)])++(p.Ad.xs.take i).flatMap encR) y43.Ed (by omega) (by first | omega | (simp only[List.length_append,AY,CV,List.length_cons,List.length_nil];omega)) (Nat.le_trans (show n0≤n34 by omega) (Nat.le_of_eq hw44.size.symm)) (hw44.at (i:=1) rfl)).mono ?_
  intro e w47 hpw47
  obtain⟨ax45,cp46,rfl,hmw47,hSw47⟩:=Eb hw44 (i:=1) rfl hpw47;have hnw47:n34≤w47.heap.size:=hmw47
  refine⟨_,_,rfl,hSw47, ?_⟩
  refine AC 4 7 [] [[o0],[o0,o0,(DF 2 b36 o37 p.Ad),o0,(oi i),o0,(oa [.via 0 (i6 y43.Dz)])]] [Qb z,Df b36 o37 p.Ad,BK i,i<p.Ad.xs.length,BG,∀ w',Ch.holds (old (fun b=>(Value.slice ad bs.length cap).ownBlock=some b) w) w'→w'.cell? ⟨b36,o37+i*4+1,none⟩=some (i6 y43.Dz)] [(3,pt z),(Jt p),(47,Ae i),(5,Ae i),(58,.slice ax45 ((((((((((bs++leB (p.Name.size:Int) 4)++Ci p.Name)++leB p.Entry 4)++leB p.AP 4)++leB p.AA 4)++leB p.AQ 4)++leB p.AL 4)++[(p.Ad.xs.length:Int)])++(p.Ad.xs.take i).flatMap encR++leB y43.Ed 4).length) cp46),(64,i6 y43.Dz)] rfl ⟨rfl,CZ ha38,rfl,(by omega),rfl,Dk hF40 (hc41 1 _ rfl),Ac⟩ ?_
  refine l_call [] [] 41 #[.slice ax45 ((((((((((bs++leB (p.Name.size:Int) 4)++Ci p.Name)++leB p.Entry 4)++leB p.AP 4)++leB p.AA 4)++leB p.AQ 4)++leB p.AL 4)++[(p.Ad.xs.length:Int)])++(p.Ad.xs.take i).flatMap encR++leB y43.Ed 4).length) cp46,i6 y43.Dz] (some 65) Ac ?_
  intro w48 hw48
  refine(DD w48 n0 ax45 cp46 (((((((((bs++leB (p.Name.size:Int) 4)++Ci p.Name)++leB p.Entry 4)++leB p.AP 4)++leB p.AA 4)++leB p.AQ 4)++leB p.AL 4)++[(p.Ad.xs.length:Int)])++(p.Ad.xs.take i).flatMap encR++leB y43.Ed 4) y43.Dz (by omega) (by first | omega | (simp only[List.length_append,AY,CV,List.length_cons,List.length_nil];omega)) (Nat.le_trans (show n0≤w47.heap.size by omega) (Nat.le_of_eq hw48.size.symm)) (hw48.at (i:=1) rfl)).mono ?_
  intro e w51 hpw51
  obtain⟨ax49,cp50,rfl,hmw51,hSw51⟩:=Eb hw48 (i:=1) rfl hpw51;have hnw51:w47.heap.size≤w51.heap.size:=hmw51
  refine⟨_,_,rfl,hSw51, ?_⟩
  refine AC 4 7 [] [[o0],[o0,o0,(DF 2 b36 o37 p.Ad),o0,(oi i),o0,(oa [.via 0 (i6 y43.Frame)])]] [Qb z,Df b36 o37 p.Ad,BK i,i<p.Ad.xs.length,BG,∀ w',Ch.holds (old (fun b=>(Value.slice ad bs.length cap).ownBlock=some b) w) w'→w'.cell? ⟨b36,o37+i*4+2,none⟩=some (i6 y43.Frame)] [(3,pt z),(Jt p),(47,Ae i),(5,Ae i),(66,.slice ax49 (((((((((((bs++leB (p.Name.size:Int) 4)++Ci p.Name)++leB p.Entry 4)++leB p.AP 4)++leB p.AA 4)++leB p.AQ 4)++leB p.AL 4)++[(p.Ad.xs.length:Int)])++(p.Ad.xs.take i).flatMap encR++leB y43.Ed 4)++leB y43.Dz 4).length) cp50),(72,i6 y43.Frame)] rfl ⟨rfl,CZ ha38,rfl,(by omega),rfl,Dk hF40 (hc41 2 _ rfl),Ac⟩ ?_
  refine l_call [] [] 41 #[.slice ax49 (((((((((((bs++leB (p.Name.size:Int) 4)++Ci p.Name)++leB p.Entry 4)++leB p.AP 4)++leB p.AA 4)++leB p.AQ 4)++leB p.AL 4)++[(p.Ad.xs.length:Int)])++(p.Ad.xs.take i).flatMap encR++leB y43.Ed 4)++leB y43.Dz 4).length) cp50,i6 y43.Frame] (some 73) Ac ?_
  intro w52 hw52
  refine(DD w52 n0 ax49 cp50 ((((((((((bs++leB (p.Name.size:Int) 4)++Ci p.Name)++leB p.Entry 4)++leB p.AP 4)++leB p.AA 4)++leB p.AQ 4)++leB p.AL 4)++[(p.Ad.xs.length:Int)])++(p.Ad.xs.take i).flatMap encR++leB y43.Ed 4)++leB y43.Dz 4) y43.Frame (by omega) (by first | omega | (simp only[List.length_append,AY,CV,List.length_cons,List.length_nil];omega)) (Nat.le_trans (show n0≤w51.heap.size by omega) (Nat.le_of_eq hw52.size.symm)) (hw52.at (i:=1) rfl)).mono ?_
  intro e w55 hpw55
  obtain⟨ax53,cp54,rfl,hmw55,hSw55⟩:=Eb hw52 (i:=1) rfl hpw55;have hnw55:w51.heap.size≤w55.heap.size:=hmw55
  refine⟨_,_,rfl,hSw55, ?_⟩
  refine AC 3 7 [] [[o0],[o0,o0,(DF 2 b36 o37 p.Ad),o0,(oi i),o0,(oa [.via 0 (i6 y43.CX)])]] [Qb z,Df b36 o37 p.Ad,BK i,i<p.Ad.xs.length,BG,∀ w',Ch.holds (old (fun b=>(Value.slice ad bs.length cap).ownBlock=some b) w) w'→w'.cell? ⟨b36,o37+i*4+3,none⟩=some (i6 y43.CX)] [(3,pt z),(Jt p),(47,Ae i),(74,.slice ax53 ((((((((((((bs++leB (p.Name.size:Int) 4)++Ci p.Name)++leB p.Entry 4)++leB p.AP 4)++leB p.AA 4)++leB p.AQ 4)++leB p.AL 4)++[(p.Ad.xs.length:Int)])++(p.Ad.xs.take i).flatMap encR++leB y43.Ed 4)++leB y43.Dz 4)++leB y43.Frame 4).length) cp54),(80,i6 y43.CX)] rfl ⟨rfl,CZ ha38,rfl,(by omega),rfl,Dk hF40 (hc41 3 _ rfl),Ac⟩ ?_
  refine l_call [] [] 41 #[.slice ax53 ((((((((((((bs++leB (p.Name.size:Int) 4)++Ci p.Name)++leB p.Entry 4)++leB p.AP 4)++leB p.AA 4)++leB p.AQ 4)++leB p.AL 4)++[(p.Ad.xs.length:Int)])++(p.Ad.xs.take i).flatMap encR++leB y43.Ed 4)++leB y43.Dz 4)++leB y43.Frame 4).length) cp54,i6 y43.CX] (some 81) Ac ?_
  intro w56 hw56
  refine(DD w56 n0 ax53 cp54 (((((((((((bs++leB (p.Name.size:Int) 4)++Ci p.Name)++leB p.Entry 4)++leB p.AP 4)++leB p.AA 4)++leB p.AQ 4)++leB p.AL 4)++[(p.Ad.xs.length:Int)])++(p.Ad.xs.take i).flatMap encR++leB y43.Ed 4)++leB y43.Dz 4)++leB y43.Frame 4) y43.CX (by omega) (by first | omega | (simp only[List.length_append,AY,CV,List.length_cons,List.length_nil];omega)) (Nat.le_trans (show n0≤w55.heap.size by omega) (Nat.le_of_eq hw56.size.symm)) (hw56.at (i:=1) rfl)).mono ?_
  intro e w59 hpw59
  obtain⟨ax57,cp58,rfl,hmw59,hSw59⟩:=Eb hw56 (i:=1) rfl hpw59;have hnw59:w55.heap.size≤w59.heap.size:=hmw59
  refine⟨_,_,rfl,hSw59, ?_⟩
  refine AC 5 0 [] [[o0],[(ov (i6 ((i+1:Nat):Int))),o0]] [Wr ((i:Int)+1) (((i+1:Nat):Int))] [(0,.slice ax57 (((((((((((((bs++leB (p.Name.size:Int) 4)++Ci p.Name)++leB p.Entry 4)++leB p.AP 4)++leB p.AA 4)++leB p.AQ 4)++leB p.AL 4)++[(p.Ad.xs.length:Int)])++(p.Ad.xs.take i).flatMap encR++leB y43.Ed 4)++leB y43.Dz 4)++leB y43.Frame 4)++leB y43.CX 4).length) cp58),(3,pt z),(Jt p),(47,i6 ((i+1:Nat):Int))] rfl ⟨Bq,Ac⟩ ?_
  refine BB (fun a w' hs=>⟨p.Ad.xs.length - (i+1),by omega,w59.heap.size,(i+1),ax57,cp58,rfl,by omega,by omega,by(try dsimp only[JK,J3,Qi,OG,Jt]at hs ⊢);rw[Gu (by omega),←hy43];unfold encR;simp only[←List.append_assoc]at hs ⊢;exact hs⟩)
 refine q_c 12 6 [0] [[oF],[o0,o0,(a1 2),o0,(ov (.int .u8 (p.Ai.xs.length:Int))),o0]] [BF ((i:Int)<(p.Ad.xs.length:Int)),Qb z,Value.int .u8 (IntKind.u8.wrap ((p.Ai.xs.length:Int)))=Value.int .u8 ((p.Ai.xs.length:Int))] [(3,pt z),(83,.slice aR ((((((((((bs++leB (p.Name.size:Int) 4)++Ci p.Name)++leB p.Entry 4)++leB p.AP 4)++leB p.AA 4)++leB p.AQ 4)++leB p.AL 4)++[(p.Ad.xs.length:Int)])++(p.Ad.xs.take i).flatMap encR).length) cR),(88,.slice (some ⟨n34,0,none⟩) 1 1)] ⟨w,n34+1,[(old (fun b=>(Value.slice ad bs.length cap).ownBlock=some b) w),(Qi p n0 bs i aR cR),(J3 p z),(JK w28 p),(NG p n34)]⟩ rfl ⟨bf,rfl,congrArg (Value.int .u8) (LP rfl (by omega) (by omega)),Ac⟩ ?_
 refine E8 n0 1 4 (((((((((bs++leB (p.Name.size:Int) 4)++Ci p.Name)++leB p.Entry 4)++leB p.AP 4)++leB p.AA 4)++leB p.AQ 4)++leB p.AL 4)++[(p.Ad.xs.length:Int)])++(p.Ad.xs.take i).flatMap encR) [(p.Ai.xs.length:Int)] Bh 5 1 1 (.slice aR ((((((((((bs++leB (p.Name.size:Int) 4)++Ci p.Name)++leB p.Entry 4)++leB p.AP 4)++leB p.AA 4)++leB p.AQ 4)++leB p.AL 4)++[(p.Ad.xs.length:Int)])++(p.Ad.xs.take i).flatMap encR).length) cR) n34 1 1 #[.int .u8 (p.Ai.xs.length:Int)] 5 (0,0) true (some 89) (by first | omega | (simp only[List.length_append,AY,CV,List.length_cons,List.length_nil];omega)) (show n0≤n34+1 by omega) (fun ax60 cp61 n62 (hn63:n34+1≤n62) => ?_)
 refine AC 8 0 [] [[o0],[o0,(a1 2),o0,o0]] [Qb z] [(0,.slice ax60 ((((((((((bs++leB (p.Name.size:Int) 4)++Ci p.Name)++leB p.Entry 4)++leB p.AP 4)++leB p.AA 4)++leB p.AQ 4)++leB p.AL 4)++[(p.Ad.xs.length:Int)])++(p.Ad.xs.take i).flatMap encR++[(p.Ai.xs.length:Int)]).length) cp61),(3,pt z),(IX p),(93,i6 0)] rfl ⟨rfl,Ac⟩ ?_
 refine Bl (fun m a w'=>∃ (n65:Nat) (k:Nat) (aP:Option Addr) (cP:Nat),m=p.Ai.xs.length - k∧n62≤n65∧(k≤p.Ai.xs.length)∧St 116 [(Tj p bs i k aP cP),(3,pt z),(IX p),(93,Ae k)] [] ⟨w,n65,[(old (fun b=>(Value.slice ad bs.length cap).ownBlock=some b) w),(UT p n0 bs i k aP cP),(J3 p z),(JK w28 p),(NG p n34)]⟩ a w') (p.Ai.xs.length - 0) ?_ ?_
 ·intro a w' hs;exact⟨n62,0,ax60,cp61,rfl,Nat.le_refl _,Nat.zero_le _,by(try dsimp only[JK,NG,J3,UT,Qi,Tj,OG,Jt,IX]at hs ⊢);rw[List.take_zero,List.flatMap_nil,List.append_nil];exact hs⟩
 rintro m a w' ⟨n65,k,aP,cP,rfl,hn64,hkk,hs⟩
 refine(?_:G Try.prog 116 [(Tj p bs i k aP cP),(3,pt z),(IX p),(93,Ae k)] [] ⟨w,n65,[(old (fun b=>(Value.slice ad bs.length cap).ownBlock=some b) w),(UT p n0 bs i k aP cP),(J3 p z),(JK w28 p),(NG p n34)]⟩ _ _ _) a w' hs
 clear hs a w'
 have hfl2:=I9 (enc:=EI) (K:=5) (xs:=p.Ai.xs) k (by omega) (fun q _=>by rw[RX];exact Nat.le_refl _)
 refine Bi ?_
 by_cases h66:(k:Int)<(p.Ai.xs.length:Int)
 ·refine Aw 14 0 [1] [[oT],[o0,o0]] [BT ((k:Int)<(p.Ai.xs.length:Int))] [(Tj p bs i k aP cP),(3,pt z),(IX p),(93,Ae k),(6,Ae k)] rfl ⟨bt,Ac⟩ ?_
  obtain⟨b67,o68,ha69,hF71,hc70⟩:=(hp.Ai).1.all (show 0<p.Ai.xs.length by omega)
  replace ha69:p.Ai.a=some ⟨b67,o68,none⟩:=ha69
  have hc72:=hc70 k (show k<p.Ai.xs.length by omega)
  have he73:=(hp.Ai).2 k (show k<p.Ai.xs.length by omega)
  obtain⟨y74,hy74⟩:∃ y_,y_=gd p.Ai.xs k:=⟨_,rfl⟩
  rw[←hy74]at he73 hc72
  have hyy74:=okP_has (hPs k (by omega));rw[←hy74]at hyy74;obtain⟨g1y74,g2y74⟩:=hyy74
  refine Aw 1 7 [] [[o0,o0,(DF 2 b67 o68 p.Ai),o0,(oi k),o0,(oa [.via 0 (i6 y74.Channel)])]] [Qb z,Df b67 o68 p.Ai,BK k,k<p.Ai.xs.length,BG,∀ w',Ch.holds (old (fun b=>(Value.slice ad bs.length cap).ownBlock=some b) w) w'→w'.cell? ⟨b67,o68+k*2,none⟩=some (i6 y74.Channel)] [(3,pt z),(IX p),(93,Ae k),(6,Ae k),(96,.slice aP (((((((((((bs++leB (p.Name.size:Int) 4)++Ci p.Name)++leB p.Entry 4)++leB p.AP 4)++leB p.AA 4)++leB p.AQ 4)++leB p.AL 4)++[(p.Ad.xs.length:Int)])++(p.Ad.xs.take i).flatMap encR++[(p.Ai.xs.length:Int)])++(p.Ai.xs.take k).flatMap EI).length) cP),(102,i6 y74.Channel)] rfl ⟨rfl,CZ ha69,rfl,(by omega),rfl,Dk hF71 (hc72 0 _ rfl),Ac⟩ ?_
  refine l_call [] [] 41 #[.slice aP (((((((((((bs++leB (p.Name.size:Int) 4)++Ci p.Name)++leB p.Entry 4)++leB p.AP 4)++leB p.AA 4)++leB p.AQ 4)++leB p.AL 4)++[(p.Ad.xs.length:Int)])++(p.Ad.xs.take i).flatMap encR++[(p.Ai.xs.length:Int)])++(p.Ai.xs.take k).flatMap EI).length) cP,i6 y74.Channel] (some 103) Ac ?_
  intro w75 hw75
  refine(DD w75 n0 aP cP ((((((((((bs++leB (p.Name.size:Int) 4)++Ci p.Name)++leB p.Entry 4)++leB p.AP 4)++leB p.AA 4)++leB p.AQ 4)++leB p.AL 4)++[(p.Ad.xs.length:Int)])++(p.Ad.xs.take i).flatMap encR++[(p.Ai.xs.length:Int)])++(p.Ai.xs.take k).flatMap EI) y74.Channel (by omega) (by first | omega | (simp only[List.length_append,AY,CV,List.length_cons,List.length_nil];omega)) (Nat.le_trans (show n0≤n65 by omega) (Nat.le_of_eq hw75.size.symm)) (hw75.at (i:=1) rfl)).mono ?_
  intro e w78 hpw78
  obtain⟨ax76,cp77,rfl,hmw78,hSw78⟩:=Eb hw75 (i:=1) rfl hpw78;have hnw78:n65≤w78.heap.size:=hmw78
  refine⟨_,_,rfl,hSw78, ?_⟩
  refine AC 11 0 [] [[o0],[o0],[o0,(DF 2 b67 o68 p.Ai),o0,(oi k),o0,(oa [.via 0 (.bool y74.Source)])]] [Qb z,Df b67 o68 p.Ai,BK k,k<p.Ai.xs.length,BG,∀ w',Ch.holds (old (fun b=>(Value.slice ad bs.length cap).ownBlock=some b) w) w'→w'.cell? ⟨b67,o68+k*2+1,none⟩=some (.bool y74.Source)] [(3,pt z),(IX p),(93,Ae k),(0,.slice ax76 (((((((((((bs++leB (p.Name.size:Int) 4)++Ci p.Name)++leB p.Entry 4)++leB p.AP 4)++leB p.AA 4)++leB p.AQ 4)++leB p.AL 4)++[(p.Ad.xs.length:Int)])++(p.Ad.xs.take i).flatMap encR++[(p.Ai.xs.length:Int)])++(p.Ai.xs.take k).flatMap EI++leB y74.Channel 4).length) cp77),(7,.int .u8 0),(109,.bool y74.Source)] rfl ⟨rfl,CZ ha69,rfl,(by omega),rfl,Dk hF71 (hc72 1 _ rfl),Ac⟩ ?_
  by_cases h79:y74.Source=true
  ·refine q_c 5 3 [3] [[o0],[o0,o0,o0]] [Value.bool y74.Source=Value.bool true] [(3,pt z),(IX p),(93,Ae k),(X4 p ax76 bs i k y74 cp77),(112,.slice (some ⟨w78.heap.size,0,none⟩) 1 1)] ⟨w,w78.heap.size+1,[(old (fun b=>(Value.slice ad bs.length cap).ownBlock=some b) w),(Yg p n0 ax76 bs i k y74 cp77),(J3 p z),(JK w28 p),(NG p n34),(.blk w78.heap.size (.cells #[.int .u8 1] 5 (0,0)) true)]⟩ rfl ⟨(congrArg Value.bool h79),Ac⟩ ?_
   refine E8 n0 1 5 ((((((((((bs++leB (p.Name.size:Int) 4)++Ci p.Name)++leB p.Entry 4)++leB p.AP 4)++leB p.AA 4)++leB p.AQ 4)++leB p.AL 4)++[(p.Ad.xs.length:Int)])++(p.Ad.xs.take i).flatMap encR++[(p.Ai.xs.length:Int)])++(p.Ai.xs.take k).flatMap EI++leB y74.Channel 4) [1] Bh 5 1 1 (.slice ax76 (((((((((((bs++leB (p.Name.size:Int) 4)++Ci p.Name)++leB p.Entry 4)++leB p.AP 4)++leB p.AA 4)++leB p.AQ 4)++leB p.AL 4)++[(p.Ad.xs.length:Int)])++(p.Ad.xs.take i).flatMap encR++[(p.Ai.xs.length:Int)])++(p.Ai.xs.take k).flatMap EI++leB y74.Channel 4).length) cp77) w78.heap.size 1 1 #[.int .u8 1] 5 (0,0) true (some 113) (by first | omega | (simp only[List.length_append,AY,CV,List.length_cons,List.length_nil];omega)) (show n0≤w78.heap.size+1 by omega) (fun ax80 cp81 n82 (hn83:w78.heap.size+1≤n82) => ?_)
   refine AC 5 0 [] [[o0],[(ov (i6 ((k+1:Nat):Int))),o0]] [Wr ((k:Int)+1) (((k+1:Nat):Int))] [(3,pt z),(IX p),(93,i6 ((k+1:Nat):Int)),(XG p bs i k y74 ax80 cp81)] rfl ⟨Bq,Ac⟩ ?_
   refine CG [0,1,2,3,4] [(old (fun b=>(Value.slice ad bs.length cap).ownBlock=some b) w),(Au n0 5 1 Bh (.slice ax80 ((((((((((((bs++leB (p.Name.size:Int) 4)++Ci p.Name)++leB p.Entry 4)++leB p.AP 4)++leB p.AA 4)++leB p.AQ 4)++leB p.AL 4)++[(p.Ad.xs.length:Int)])++(p.Ad.xs.take i).flatMap encR++[(p.Ai.xs.length:Int)])++(p.Ai.xs.take k).flatMap EI++leB y74.Channel 4)++[1]).length) cp81) (((((((((((bs++leB (p.Name.size:Int) 4)++Ci p.Name)++leB p.Entry 4)++leB p.AP 4)++leB p.AA 4)++leB p.AQ 4)++leB p.AL 4)++[(p.Ad.xs.length:Int)])++(p.Ad.xs.take i).flatMap encR++[(p.Ai.xs.length:Int)])++(p.Ai.xs.take k).flatMap EI++leB y74.Channel 4)++[1])),(J3 p z),(JK w28 p),(NG p n34)] rfl rfl ?_
   refine Ce [0,3,92,93] [(XG p bs i k y74 ax80 cp81),(3,pt z),(IX p),(93,i6 ((k+1:Nat):Int))] ?_
   refine BB (fun a w' hs=>⟨p.Ai.xs.length - (k+1),by omega,n82,(k+1),ax80,cp81,rfl,by omega,by omega,by(try dsimp only[JK,NG,J3,Yg,UT,Qi,XG,X4,Tj,OG,Jt,IX]at hs ⊢);rw[Gu (by omega),←hy74,encP_yes h79];simp only[←List.append_assoc]at hs ⊢;exact hs⟩)
  refine q_c 4 3 [2] [[o0,o0,o0]] [Value.bool y74.Source=Value.bool false] [(3,pt z),(IX p),(93,Ae k),(X4 p ax76 bs i k y74 cp77),(112,.slice (some ⟨w78.heap.size,0,none⟩) 1 1)] ⟨w,w78.heap.size+1,[(old (fun b=>(Value.slice ad bs.length cap).ownBlock=some b) w),(Yg p n0 ax76 bs i k y74 cp77),(J3 p z),(JK w28 p),(NG p n34),(.blk w78.heap.size (.cells #[.int .u8 0] 5 (0,0)) true)]⟩ rfl ⟨(congrArg Value.bool (Bool.eq_false_iff.2 h79)),Ac⟩ ?_
  refine E8 n0 1 5 ((((((((((bs++leB (p.Name.size:Int) 4)++Ci p.Name)++leB p.Entry 4)++leB p.AP 4)++leB p.AA 4)++leB p.AQ 4)++leB p.AL 4)++[(p.Ad.xs.length:Int)])++(p.Ad.xs.take i).flatMap encR++[(p.Ai.xs.length:Int)])++(p.Ai.xs.take k).flatMap EI++leB y74.Channel 4) [0] Bh 5 1 1 (.slice ax76 (((((((((((bs++leB (p.Name.size:Int) 4)++Ci p.Name)++leB p.Entry 4)++leB p.AP 4)++leB p.AA 4)++leB p.AQ 4)++leB p.AL 4)++[(p.Ad.xs.length:Int)])++(p.Ad.xs.take i).flatMap encR++[(p.Ai.xs.length:Int)])++(p.Ai.xs.take k).flatMap EI++leB y74.Channel 4).length) cp77) w78.heap.size 1 1 #[.int .u8 0] 5 (0,0) true (some 113) (by first | omega | (simp only[List.length_append,AY,CV,List.length_cons,List.length_nil];omega)) (show n0≤w78.heap.size+1 by omega) (fun ax84 cp85 n86 (hn87:w78.heap.size+1≤n86) => ?_)
  refine AC 5 0 [] [[o0],[(ov (i6 ((k+1:Nat):Int))),o0]] [Wr ((k:Int)+1) (((k+1:Nat):Int))] [(3,pt z),(IX p),(93,i6 ((k+1:Nat):Int)),(ZV p bs i k y74 ax84 cp85)] rfl ⟨Bq,Ac⟩ ?_
  refine CG [0,1,2,3,4] [(old (fun b=>(Value.slice ad bs.length cap).ownBlock=some b) w),(Au n0 5 1 Bh (.slice ax84 ((((((((((((bs++leB (p.Name.size:Int) 4)++Ci p.Name)++leB p.Entry 4)++leB p.AP 4)++leB p.AA 4)++leB p.AQ 4)++leB p.AL 4)++[(p.Ad.xs.length:Int)])++(p.Ad.xs.take i).flatMap encR++[(p.Ai.xs.length:Int)])++(p.Ai.xs.take k).flatMap EI++leB y74.Channel 4)++[0]).length) cp85) (((((((((((bs++leB (p.Name.size:Int) 4)++Ci p.Name)++leB p.Entry 4)++leB p.AP 4)++leB p.AA 4)++leB p.AQ 4)++leB p.AL 4)++[(p.Ad.xs.length:Int)])++(p.Ad.xs.take i).flatMap encR++[(p.Ai.xs.length:Int)])++(p.Ai.xs.take k).flatMap EI++leB y74.Channel 4)++[0])),(J3 p z),(JK w28 p),(NG p n34)] rfl rfl ?_
  refine Ce [0,3,92,93] [(ZV p bs i k y74 ax84 cp85),(3,pt z),(IX p),(93,i6 ((k+1:Nat):Int))] ?_
  refine BB (fun a w' hs=>⟨p.Ai.xs.length - (k+1),by omega,n86,(k+1),ax84,cp85,rfl,by omega,by omega,by(try dsimp only[JK,NG,J3,Yg,UT,Qi,XG,ZV,X4,Tj,OG,Jt,IX]at hs ⊢);rw[Gu (by omega),←hy74,encP_no h79];simp only[←List.append_assoc]at hs ⊢;exact hs⟩)
 refine Aw 15 0 [0] [[oF],[o0,o0]] [BF ((k:Int)<(p.Ai.xs.length:Int))] [(4,.slice aP (((((((((((bs++leB (p.Name.size:Int) 4)++Ci p.Name)++leB p.Entry 4)++leB p.AP 4)++leB p.AA 4)++leB p.AQ 4)++leB p.AL 4)++[(p.Ad.xs.length:Int)])++(p.Ad.xs.take i).flatMap encR++[(p.Ai.xs.length:Int)])++(p.Ai.xs.take k).flatMap EI).length) cP)] rfl ⟨bf,Ac⟩ ?_
 refine AU [] [] (.slice aP (((((((((((bs++leB (p.Name.size:Int) 4)++Ci p.Name)++leB p.Entry 4)++leB p.AP 4)++leB p.AA 4)++leB p.AQ 4)++leB p.AL 4)++[(p.Ad.xs.length:Int)])++(p.Ad.xs.take i).flatMap encR++[(p.Ai.xs.length:Int)])++(p.Ai.xs.take k).flatMap EI).length) cP) Ac ?_
 intro w88 hw88
 have hD:=row_end hw88 rfl (show w.heap.size≤n65 by omega) rfl (j:=1) rfl (by decide)
 have hT1:p.Ad.xs.take i=p.Ad.xs:=by rw[show i=p.Ad.xs.length from by omega,List.take_length]
 have hT2:p.Ai.xs.take k=p.Ai.xs:=by rw[show k=p.Ai.xs.length from by omega,List.take_length]
 have hE:(((((((((bs++leB (p.Name.size:Int) 4)++Ci p.Name)++leB p.Entry 4)++leB p.AP 4)++leB p.AA 4)++leB p.AQ 4)++leB p.AL 4)++[(p.Ad.xs.length:Int)])++(p.Ad.xs.take i).flatMap encR++[(p.Ai.xs.length:Int)])++(p.Ai.xs.take k).flatMap EI=bs++encPt p:=by rw[hT1,hT2];simp only[encPt,IU,AO,KF,List.flatMap_cons,List.flatMap_nil,List.append_nil,List.append_assoc]
 rw[hE]at hD ⊢
 exact hD
theorem okW_has{x:Af}(h:okW x=true)(hI:FV .i64 x.Partition):(-1≤x.Partition∧x.Partition<4294967295)∧(0≤x.Cc∧x.Cc≤4294967295)∧(0≤x.Dy∧x.Dy≤4294967295)∧Gv x=leB (x.Partition+1) 4++leB x.Cc 4++leB x.Dy 4:=by
 rw[RD hI]at h
 simp only[Bool.and_eq_true,decide_eq_true_eq]at h
 obtain⟨⟨h1,h2⟩,h3,h4⟩:=h
 refine⟨⟨h1,h2⟩,Ha h3,Ha h4, ?_⟩
 unfold Gv
 rw[UN (b:=x.Partition+1) rfl (by omega) (by omega)]
theorem Qp{α:Type}[Inhabited α]{ok:α→Bool}{xs:List α}(h:E5 ok xs=true):xs.length≤255∧∀ q,q<xs.length→ok (gd xs q)=true:=by
 have h1:=J8 h
 unfold E5 at h
 simp only[Bool.and_eq_true,List.all_eq_true]at h
 exact⟨h1,fun q hq=>h.2 _ (by rw[Di hq];exact List.getElem_mem hq)⟩
theorem WM{c:Am}(h:FQ c=true):((0≤c.Frames∧c.Frames≤4294967295)∧(0≤c.AX∧c.AX≤4294967295)∧(0≤c.Kernel∧c.Kernel≤4294967295)∧(0≤c.Room∧c.Room≤4294967295))∧E5 Kr c.Aj.xs=true∧E5 FT c.Aa.xs=true∧E5 MS c.Ah.xs=true:=by
 unfold FQ at h
 simp only[Bool.and_eq_true]at h
 obtain⟨⟨⟨h1,h2⟩,h3⟩,h4⟩:=h
 have h5:∀ n∈EU c,0≤n∧n≤4294967295:=fun n hn=>Ha (List.all_eq_true.1 h1 n hn)
 exact⟨⟨h5 _ (by simp[EU]),h5 _ (by simp[EU]),h5 _ (by simp[EU]),h5 _ (by simp[EU])⟩,h2,h3,h4⟩
theorem head_bytes:leB 826493762 4=[66,75,67,49]:=by decide
theorem ZT{c:Am}(h:FQ c=true):(Ko c).length≤3000000:=by
 obtain⟨-,h1,h2,h3⟩:=WM h
 have g1:=YS h1
 have g2:=YU h2
 have g3:=ZJ h3
 unfold Ko EU
 simp only[List.length_append,AY,List.flatMap_cons,List.flatMap_nil,List.length_nil]
 omega
section
variable (w16:World)(c:Am)(n22 n64:Nat)(y31:Sl Af)(z:Nat)(aD:Option Addr)(i j:Nat)(k2 cD:Nat)(aP:Option Addr)(cP:Nat)(aW:Option Addr)(k cW:Nat)(aC:Option Addr)(cC:Nat)
abbrev GY:Ch:= .blk w16.heap.size (.cells #[.int .u8 (c.Aj.xs.length:Int)] 5 (0,0)) true
abbrev ML:=bk n22 #[.int .u8 (c.Aa.xs.length:Int)] 5
abbrev TN:=bk n64 #[.int .u8 (c.Ah.xs.length:Int)] 5
abbrev Nl:=bk n22 #[.int .u8 (y31.xs.length:Int)] 5
abbrev Gi:=bk z (Am.arr c) 26
abbrev TT:=Au z 5 1 Bh (.slice aD (((((((((([66,75,67,49]:List Int)++leB c.Frames 4)++leB c.AX 4)++leB c.Kernel 4)++leB c.Room 4)++[(c.Aj.xs.length:Int)])++(c.Aj.xs.take i).flatMap BA++[(c.Aa.xs.length:Int)])++(c.Aa.xs.take j).flatMap encPt++[(c.Ah.xs.length:Int)])++(c.Ah.xs.take k2).flatMap Dv).length) cD) ((((((((([66,75,67,49]:List Int)++leB c.Frames 4)++leB c.AX 4)++leB c.Kernel 4)++leB c.Room 4)++[(c.Aj.xs.length:Int)])++(c.Aj.xs.take i).flatMap BA++[(c.Aa.xs.length:Int)])++(c.Aa.xs.take j).flatMap encPt++[(c.Ah.xs.length:Int)])++(c.Ah.xs.take k2).flatMap Dv)
abbrev Qj:=Au z 5 1 Bh (.slice aP ((((((((([66,75,67,49]:List Int)++leB c.Frames 4)++leB c.AX 4)++leB c.Kernel 4)++leB c.Room 4)++[(c.Aj.xs.length:Int)])++(c.Aj.xs.take i).flatMap BA++[(c.Aa.xs.length:Int)])++(c.Aa.xs.take j).flatMap encPt).length) cP) (((((((([66,75,67,49]:List Int)++leB c.Frames 4)++leB c.AX 4)++leB c.Kernel 4)++leB c.Room 4)++[(c.Aj.xs.length:Int)])++(c.Aj.xs.take i).flatMap BA++[(c.Aa.xs.length:Int)])++(c.Aa.xs.take j).flatMap encPt)
abbrev Nk:=Au z 5 1 Bh (.slice aW ((((((((([66,75,67,49]:List Int)++leB c.Frames 4)++leB c.AX 4)++leB c.Kernel 4)++leB c.Room 4)++[(c.Aj.xs.length:Int)])++(c.Aj.xs.take i).flatMap BA++[(y31.xs.length:Int)])++(y31.xs.take k).flatMap Gv).length) cW) (((((((([66,75,67,49]:List Int)++leB c.Frames 4)++leB c.AX 4)++leB c.Kernel 4)++leB c.Room 4)++[(c.Aj.xs.length:Int)])++(c.Aj.xs.take i).flatMap BA++[(y31.xs.length:Int)])++(y31.xs.take k).flatMap Gv)
abbrev KZ:=Au z 5 1 Bh (.slice aC (((((((([66,75,67,49]:List Int)++leB c.Frames 4)++leB c.AX 4)++leB c.Kernel 4)++leB c.Room 4)++[(c.Aj.xs.length:Int)])++(c.Aj.xs.take i).flatMap BA).length) cC) ((((((([66,75,67,49]:List Int)++leB c.Frames 4)++leB c.AX 4)++leB c.Kernel 4)++leB c.Room 4)++[(c.Aj.xs.length:Int)])++(c.Aj.xs.take i).flatMap BA)
abbrev Uo:EM:=(3,.slice aD (((((((((([66,75,67,49]:List Int)++leB c.Frames 4)++leB c.AX 4)++leB c.Kernel 4)++leB c.Room 4)++[(c.Aj.xs.length:Int)])++(c.Aj.xs.take i).flatMap BA++[(c.Aa.xs.length:Int)])++(c.Aa.xs.take j).flatMap encPt++[(c.Ah.xs.length:Int)])++(c.Ah.xs.take k2).flatMap Dv).length) cD)
abbrev OL:EM:=(3,.slice aP ((((((((([66,75,67,49]:List Int)++leB c.Frames 4)++leB c.AX 4)++leB c.Kernel 4)++leB c.Room 4)++[(c.Aj.xs.length:Int)])++(c.Aj.xs.take i).flatMap BA++[(c.Aa.xs.length:Int)])++(c.Aa.xs.take j).flatMap encPt).length) cP)
abbrev JF:EM:=(3,.slice aW ((((((((([66,75,67,49]:List Int)++leB c.Frames 4)++leB c.AX 4)++leB c.Kernel 4)++leB c.Room 4)++[(c.Aj.xs.length:Int)])++(c.Aj.xs.take i).flatMap BA++[(y31.xs.length:Int)])++(y31.xs.take k).flatMap Gv).length) cW)
abbrev Ku:EM:=(3,.slice aC (((((((([66,75,67,49]:List Int)++leB c.Frames 4)++leB c.AX 4)++leB c.Kernel 4)++leB c.Room 4)++[(c.Aj.xs.length:Int)])++(c.Aj.xs.take i).flatMap BA).length) cC)
abbrev KW:=(103,Ae c.Aa.xs.length)
abbrev L6:=(124,Ae c.Ah.xs.length)
abbrev Fj:=(35,Ae c.Aj.xs.length)
abbrev IC:=(54,Ae y31.xs.length)
end
theorem form_calls(w:World)(c:Am)(hc:Am.ok Any w c)(hok:FQ c=true):Calls Try.prog 15 #[.agg (Am.arr c)] w fun e w'=>∃ a2 cap2,e = .returned (.slice a2 (Ko c).length cap2)∧w'.ownsRow w.heap.size 5 1 (.slice a2 (Ko c).length cap2) (Ko c).length ((Ko c).flatMap Bh)∧AV (fun _=>False) w w':=by
 obtain⟨z,hz⟩:∃ z,z=w.heap.size:=⟨_,rfl⟩
 refine Bc (args:=[.agg (Am.arr c)]) 154 ⟨w,z,[(A8 w)]⟩ Try.func15 rfl (by kernel_rfl) (by kernel_rfl) (EW hz) ?_
 have hcl:=hc.lt;obtain⟨⟨⟨hn1,hn2⟩,⟨hn3,hn4⟩,⟨hn5,hn6⟩,hn7,hn8⟩,hk1,hk2,hk3⟩:=WM hok;obtain⟨hW1,hW2⟩:=Qp hk1;obtain⟨hP1,hP2⟩:=Qp hk2;obtain⟨hC1,hC2⟩:=Qp hk3
 refine Bj [0] [(0,.agg (Am.arr c))] ?_
 refine q_c 6 1 [] [[o0,o0],[o0]] [] [(1,pt z),(8,.slice (some ⟨z+1,0,none⟩) 4 4)] ⟨w,z+2,[(A8 w),(Gi c z),(bk (z+1) #[.int .u8 66,.int .u8 75,.int .u8 67,.int .u8 49] 5)]⟩ rfl Ac ?_
 refine l_mark 2 (z+1) 4 4 #[.int .u8 66,.int .u8 75,.int .u8 67,.int .u8 49] 5 (some 9) (?_:Lg _ _ _ _ ⟨w,z+2,[(A8 w),(Gi c z),(Ch.blk (z+1) (.cells #[.int .u8 66,.int .u8 75,.int .u8 67,.int .u8 49] 5 (4,5)) true)]⟩ _ _ _ _)
 refine AC 3 0 [] [[o0]] [] [(1,pt z),(3,.slice (some ⟨z+1,0,none⟩) 4 4)] rfl Ac ?_
 refine g_rowM 2 (z+1) z 5 1 Bh ([66,75,67,49]:List Int) #[.int .u8 66,.int .u8 75,.int .u8 67,.int .u8 49] (4,5) (by omega) (?_:G _ _ _ _ ⟨w,z+2,[(A8 w),(Gi c z),(LJ z 5 1 Bh 0 (.slice (some ⟨z+1,0,none⟩) 4 4) ([66,75,67,49]:List Int))]⟩ _ _ _)
 refine Aw 1 3 [] [[o0,o0,(a1 1)]] [Qb z] [(1,pt z),(10,.slice (some ⟨z+1,0,none⟩) 4 4),(12,i6 c.Frames)] rfl ⟨rfl,Ac⟩ ?_
 refine l_call [] [] 41 #[.slice (some ⟨z+1,0,none⟩) 4 4,i6 c.Frames] (some 13) Ac ?_
 intro w1 hw1
 refine(Y1 w1 z (some ⟨z+1,0,none⟩) 4 ([66,75,67,49]:List Int) c.Frames (by omega) (by first | omega | (simp only[List.length_append,AY,CV,List.length_cons,List.length_nil];omega)) (Nat.le_trans (show z≤z+2 by omega) (Nat.le_of_eq hw1.size.symm)) (hw1.at (i:=2) rfl)).mono ?_
 intro e w4 hpw4
 obtain⟨ax2,cp3,rfl,hmw4,hSw4⟩:=rowpostM_sat hw1 (i:=2) rfl hpw4;have hnw4:z+2≤w4.heap.size:=hmw4
 refine⟨_,_,rfl,hSw4, ?_⟩
 refine AC 4 3 [] [[o0],[o0,o0,(a1 1)]] [Qb z] [(1,pt z),(14,.slice ax2 ((([66,75,67,49]:List Int)++leB c.Frames 4).length) cp3),(16,i6 c.AX)] rfl ⟨rfl,Ac⟩ ?_
 refine l_call [] [] 41 #[.slice ax2 ((([66,75,67,49]:List Int)++leB c.Frames 4).length) cp3,i6 c.AX] (some 17) Ac ?_
 intro w5 hw5
 refine(DD w5 z ax2 cp3 (([66,75,67,49]:List Int)++leB c.Frames 4) c.AX (by omega) (by first | omega | (simp only[List.length_append,AY,CV,List.length_cons,List.length_nil];omega)) (Nat.le_trans (show z≤w4.heap.size by omega) (Nat.le_of_eq hw5.size.symm)) (hw5.at (i:=2) rfl)).mono ?_
 intro e w8 hpw8
 obtain⟨ax6,cp7,rfl,hmw8,hSw8⟩:=Eb hw5 (i:=2) rfl hpw8;have hnw8:w4.heap.size≤w8.heap.size:=hmw8
 refine⟨_,_,rfl,hSw8, ?_⟩
 refine AC 4 3 [] [[o0],[o0,o0,(a1 1)]] [Qb z] [(1,pt z),(18,.slice ax6 (((([66,75,67,49]:List Int)++leB c.Frames 4)++leB c.AX 4).length) cp7),(20,i6 c.Kernel)] rfl ⟨rfl,Ac⟩ ?_
 refine l_call [] [] 41 #[.slice ax6 (((([66,75,67,49]:List Int)++leB c.Frames 4)++leB c.AX 4).length) cp7,i6 c.Kernel] (some 21) Ac ?_
 intro w9 hw9
 refine(DD w9 z ax6 cp7 ((([66,75,67,49]:List Int)++leB c.Frames 4)++leB c.AX 4) c.Kernel (by omega) (by first | omega | (simp only[List.length_append,AY,CV,List.length_cons,List.length_nil];omega)) (Nat.le_trans (show z≤w8.heap.size by omega) (Nat.le_of_eq hw9.size.symm)) (hw9.at (i:=2) rfl)).mono ?_
 intro e w12 hpw12
 obtain⟨ax10,cp11,rfl,hmw12,hSw12⟩:=Eb hw9 (i:=2) rfl hpw12;have hnw12:w8.heap.size≤w12.heap.size:=hmw12
 refine⟨_,_,rfl,hSw12, ?_⟩
 refine AC 4 3 [] [[o0],[o0,o0,(a1 1)]] [Qb z] [(1,pt z),(22,.slice ax10 ((((([66,75,67,49]:List Int)++leB c.Frames 4)++leB c.AX 4)++leB c.Kernel 4).length) cp11),(24,i6 c.Room)] rfl ⟨rfl,Ac⟩ ?_
 refine l_call [] [] 41 #[.slice ax10 ((((([66,75,67,49]:List Int)++leB c.Frames 4)++leB c.AX 4)++leB c.Kernel 4).length) cp11,i6 c.Room] (some 25) Ac ?_
 intro w13 hw13
 refine(DD w13 z ax10 cp11 (((([66,75,67,49]:List Int)++leB c.Frames 4)++leB c.AX 4)++leB c.Kernel 4) c.Room (by omega) (by first | omega | (simp only[List.length_append,AY,CV,List.length_cons,List.length_nil];omega)) (Nat.le_trans (show z≤w12.heap.size by omega) (Nat.le_of_eq hw13.size.symm)) (hw13.at (i:=2) rfl)).mono ?_
 intro e w16 hpw16
 obtain⟨ax14,cp15,rfl,hmw16,hSw16⟩:=Eb hw13 (i:=2) rfl hpw16;have hnw16:w12.heap.size≤w16.heap.size:=hmw16
 refine⟨_,_,rfl,hSw16, ?_⟩
 refine Ey 4 6 [] [[o0],[o0,o0,(a1 1),o0,(ov (.int .u8 (c.Aj.xs.length:Int))),o0]] [Qb z,Value.int .u8 (IntKind.u8.wrap ((c.Aj.xs.length:Int)))=Value.int .u8 ((c.Aj.xs.length:Int))] [(1,pt z),(26,.slice ax14 (((((([66,75,67,49]:List Int)++leB c.Frames 4)++leB c.AX 4)++leB c.Kernel 4)++leB c.Room 4).length) cp15),(31,.slice (some ⟨w16.heap.size,0,none⟩) 1 1)] ⟨w,w16.heap.size+1,[(A8 w),(Gi c z),(Au z 5 1 Bh (.slice ax14 (((((([66,75,67,49]:List Int)++leB c.Frames 4)++leB c.AX 4)++leB c.Kernel 4)++leB c.Room 4).length) cp15) ((((([66,75,67,49]:List Int)++leB c.Frames 4)++leB c.AX 4)++leB c.Kernel 4)++leB c.Room 4)),(GY w16 c)]⟩ rfl ⟨rfl,congrArg (Value.int .u8) (LP rfl (by omega) (by omega)),Ac⟩ ?_
 refine E8 z 2 3 ((((([66,75,67,49]:List Int)++leB c.Frames 4)++leB c.AX 4)++leB c.Kernel 4)++leB c.Room 4) [(c.Aj.xs.length:Int)] Bh 5 1 1 (.slice ax14 (((((([66,75,67,49]:List Int)++leB c.Frames 4)++leB c.AX 4)++leB c.Kernel 4)++leB c.Room 4).length) cp15) w16.heap.size 1 1 #[.int .u8 (c.Aj.xs.length:Int)] 5 (0,0) true (some 32) (by first | omega | (simp only[List.length_append,AY,CV,List.length_cons,List.length_nil];omega)) (show z≤w16.heap.size+1 by omega) (fun ax17 cp18 n19 (hn20:w16.heap.size+1≤n19) => ?_)
 refine AC 8 0 [] [[o0],[o0,(a1 1),o0,o0]] [Qb z] [(1,pt z),(3,.slice ax17 ((((((([66,75,67,49]:List Int)++leB c.Frames 4)++leB c.AX 4)++leB c.Kernel 4)++leB c.Room 4)++[(c.Aj.xs.length:Int)]).length) cp18),(Fj c),(36,i6 0)] rfl ⟨rfl,Ac⟩ ?_
 refine Bl (fun m a w'=>∃ (n22:Nat) (i:Nat) (aC:Option Addr) (cC:Nat),m=c.Aj.xs.length - i∧n19≤n22∧(i≤c.Aj.xs.length)∧St 154 [(1,pt z),(Ku c i aC cC),(Fj c),(36,Ae i)] [] ⟨w,n22,[(A8 w),(Gi c z),(KZ c z i aC cC),(GY w16 c)]⟩ a w') (c.Aj.xs.length - 0) ?_ ?_
 ·intro a w' hs;exact⟨n19,0,ax17,cp18,rfl,Nat.le_refl _,Nat.zero_le _,by(try dsimp only[GY,Gi,KZ,Ku,Fj]at hs ⊢);rw[List.take_zero,List.flatMap_nil,List.append_nil];exact hs⟩
 rintro m a w' ⟨n22,i,aC,cC,rfl,hn21,hki,hs⟩
 refine(?_:G Try.prog 154 [(1,pt z),(Ku c i aC cC),(Fj c),(36,Ae i)] [] ⟨w,n22,[(A8 w),(Gi c z),(KZ c z i aC cC),(GY w16 c)]⟩ _ _ _) a w' hs
 clear hs a w'
 have hfl:=I9 (enc:=BA) (K:=3061) (xs:=c.Aj.xs) i (by omega) (fun q hq=>WP (hW2 q (by omega)))
 refine Bi ?_
 by_cases h23:(i:Int)<(c.Aj.xs.length:Int)
 ·refine Aw 14 0 [1] [[oT],[o0,o0]] [BT ((i:Int)<(c.Aj.xs.length:Int))] [(1,pt z),(Ku c i aC cC),(Fj c),(36,Ae i),(4,Ae i)] rfl ⟨bt,Ac⟩ ?_
  obtain⟨b24,o25,ha26,hF28,hc27⟩:=(hcl.Aj).1.all (show 0<c.Aj.xs.length by omega)
  replace ha26:c.Aj.a=some ⟨b24,o25,none⟩:=ha26
  have hc29:=hc27 i (show i<c.Aj.xs.length by omega)
  have he30:=(hcl.Aj).2 i (show i<c.Aj.xs.length by omega)
  obtain⟨y31,hy31⟩:∃ y_,y_=gd c.Aj.xs i:=⟨_,rfl⟩
  rw[←hy31]at he30 hc29
  have hyoy31:=hW2 i (by omega);rw[←hy31]at hyoy31;obtain⟨hyly31,hywy31⟩:=Qp hyoy31
  refine q_c 1 9 [] [[o0,o0,(DF 1 b24 o25 c.Aj),o0,(oi i),(oa [.via 0 (.slice y31.a y31.xs.length y31.cap)]),o0,(ov (.int .u8 (y31.xs.length:Int))),o0]] [Qb z,Df b24 o25 c.Aj,BK i,i<c.Aj.xs.length,BG,Old w b24 (o25+i) (.slice y31.a y31.xs.length y31.cap),Value.int .u8 (IntKind.u8.wrap ((y31.xs.length:Int)))=Value.int .u8 ((y31.xs.length:Int))] [(1,pt z),(Fj c),(36,Ae i),(4,Ae i),(39,.slice aC (((((((([66,75,67,49]:List Int)++leB c.Frames 4)++leB c.AX 4)++leB c.Kernel 4)++leB c.Room 4)++[(c.Aj.xs.length:Int)])++(c.Aj.xs.take i).flatMap BA).length) cC),(47,.slice (some ⟨n22,0,none⟩) 1 1)] ⟨w,n22+1,[(A8 w),(Gi c z),(KZ c z i aC cC),(GY w16 c),(Nl n22 y31)]⟩ rfl ⟨rfl,CZ ha26,rfl,(by omega),rfl,Bg (hc29 0 _ rfl),congrArg (Value.int .u8) (LP rfl (by omega) (by omega)),Ac⟩ ?_
  refine E8 z 2 4 ((((((([66,75,67,49]:List Int)++leB c.Frames 4)++leB c.AX 4)++leB c.Kernel 4)++leB c.Room 4)++[(c.Aj.xs.length:Int)])++(c.Aj.xs.take i).flatMap BA) [(y31.xs.length:Int)] Bh 5 1 1 (.slice aC (((((((([66,75,67,49]:List Int)++leB c.Frames 4)++leB c.AX 4)++leB c.Kernel 4)++leB c.Room 4)++[(c.Aj.xs.length:Int)])++(c.Aj.xs.take i).flatMap BA).length) cC) n22 1 1 #[.int .u8 (y31.xs.length:Int)] 5 (0,0) true (some 48) (by first | omega | (simp only[List.length_append,AY,CV,List.length_cons,List.length_nil];omega)) (show z≤n22+1 by omega) (fun ax32 cp33 n34 (hn35:n22+1≤n34) => ?_)
  refine AC 7 0 [] [[o0],[o0,(DF 1 b24 o25 c.Aj),o0,(oi i),(oa [.via 0 (.slice y31.a y31.xs.length y31.cap)]),o0,o0]] [Qb z,Df b24 o25 c.Aj,BK i,i<c.Aj.xs.length,BG,Old w b24 (o25+i) (.slice y31.a y31.xs.length y31.cap)] [(1,pt z),(3,.slice ax32 (((((((([66,75,67,49]:List Int)++leB c.Frames 4)++leB c.AX 4)++leB c.Kernel 4)++leB c.Room 4)++[(c.Aj.xs.length:Int)])++(c.Aj.xs.take i).flatMap BA++[(y31.xs.length:Int)]).length) cp33),(4,Ae i),(Fj c),(36,Ae i),(IC y31),(55,i6 0)] rfl ⟨rfl,CZ ha26,rfl,(by omega),rfl,Bg (hc29 0 _ rfl),Ac⟩ ?_
  refine Bl (fun m a w'=>∃ (n37:Nat) (k:Nat) (aW:Option Addr) (cW:Nat),m=y31.xs.length - k∧n34≤n37∧(k≤y31.xs.length)∧St 154 [(1,pt z),(JF c y31 i aW k cW),(4,Ae i),(Fj c),(36,Ae i),(IC y31),(55,Ae k)] [] ⟨w,n37,[(A8 w),(Gi c z),(Nk c y31 z i aW k cW),(GY w16 c),(Nl n22 y31)]⟩ a w') (y31.xs.length - 0) ?_ ?_
  ·intro a w' hs;exact⟨n34,0,ax32,cp33,rfl,Nat.le_refl _,Nat.zero_le _,by(try dsimp only[GY,Nl,Gi,Nk,KZ,JF,Ku,Fj,IC]at hs ⊢);rw[List.take_zero,List.flatMap_nil,List.append_nil];exact hs⟩
  rintro m a w' ⟨n37,k,aW,cW,rfl,hn36,hkk,hs⟩
  refine(?_:G Try.prog 154 [(1,pt z),(JF c y31 i aW k cW),(4,Ae i),(Fj c),(36,Ae i),(IC y31),(55,Ae k)] [] ⟨w,n37,[(A8 w),(Gi c z),(Nk c y31 z i aW k cW),(GY w16 c),(Nl n22 y31)]⟩ _ _ _) a w' hs
  clear hs a w'
  have hfl2:=I9 (enc:=Gv) (K:=12) (xs:=y31.xs) k (by omega) (fun q _=>by rw[Xb];exact Nat.le_refl _)
  refine Bi ?_
  by_cases h38:(k:Int)<(y31.xs.length:Int)
  ·refine Aw 14 0 [1] [[oT],[o0,o0]] [BT ((k:Int)<(y31.xs.length:Int))] [(1,pt z),(JF c y31 i aW k cW),(4,Ae i),(Fj c),(36,Ae i),(IC y31),(55,Ae k),(5,Ae k)] rfl ⟨bt,Ac⟩ ?_
   obtain⟨b39,o40,ha41,hF43,hc42⟩:=(he30).1.all (show 0<y31.xs.length by omega)
   replace ha41:y31.a=some ⟨b39,o40,none⟩:=ha41
   have hc44:=hc42 k (show k<y31.xs.length by omega)
   have he45:=(he30).2 k (show k<y31.xs.length by omega)
   obtain⟨y46,hy46⟩:∃ y_,y_=gd y31.xs k:=⟨_,rfl⟩
   rw[←hy46]at he45 hc44
   have hpiy46:FV .i64 y46.Partition:=he45.Partition;have hyy46:=hywy31 k (by omega);rw[←hy46]at hyy46;obtain⟨⟨g1y46,g2y46⟩,⟨g3y46,g4y46⟩,⟨g5y46,g6y46⟩,gEy46⟩:=okW_has hyy46 hpiy46
   refine Aw 1 11 [] [[o0,o0,(DF 1 b24 o25 c.Aj),o0,(oi i),⟨.auto [.via 0 (.slice y31.a y31.xs.length y31.cap)],some (.slice (some ⟨b39,o40,none⟩) y31.xs.length y31.cap)⟩,o0,(oi k),o0,(oa [.via 0 (i6 y46.Partition)]),(ov (i6 (y46.Partition+1)))]] [Qb z,Df b24 o25 c.Aj,BK i,i<c.Aj.xs.length,BG,Old w b24 (o25+i) (.slice y31.a y31.xs.length y31.cap),Df b39 o40 y31,BK k,k<y31.xs.length,BG,Old w b39 (o40+k*3) (i6 y46.Partition),Wr ((y46.Partition:Int)+1) (y46.Partition+1)] [(1,pt z),(4,Ae i),(Fj c),(36,Ae i),(IC y31),(55,Ae k),(5,Ae k),(58,.slice aW ((((((((([66,75,67,49]:List Int)++leB c.Frames 4)++leB c.AX 4)++leB c.Kernel 4)++leB c.Room 4)++[(c.Aj.xs.length:Int)])++(c.Aj.xs.take i).flatMap BA++[(y31.xs.length:Int)])++(y31.xs.take k).flatMap Gv).length) cW),(68,i6 (y46.Partition+1))] rfl ⟨rfl,CZ ha26,rfl,(by omega),rfl,Bg (hc29 0 _ rfl),CZ ha41,rfl,(by omega),rfl,Bg (hc44 0 _ rfl),Bq,Ac⟩ ?_
   refine l_call [] [] 41 #[.slice aW ((((((((([66,75,67,49]:List Int)++leB c.Frames 4)++leB c.AX 4)++leB c.Kernel 4)++leB c.Room 4)++[(c.Aj.xs.length:Int)])++(c.Aj.xs.take i).flatMap BA++[(y31.xs.length:Int)])++(y31.xs.take k).flatMap Gv).length) cW,i6 (y46.Partition+1)] (some 69) Ac ?_
   intro w47 hw47
   refine(DD w47 z aW cW (((((((([66,75,67,49]:List Int)++leB c.Frames 4)++leB c.AX 4)++leB c.Kernel 4)++leB c.Room 4)++[(c.Aj.xs.length:Int)])++(c.Aj.xs.take i).flatMap BA++[(y31.xs.length:Int)])++(y31.xs.take k).flatMap Gv) (y46.Partition+1) (by omega) (by first | omega | (simp only[List.length_append,AY,CV,List.length_cons,List.length_nil];omega)) (Nat.le_trans (show z≤n37 by omega) (Nat.le_of_eq hw47.size.symm)) (hw47.at (i:=2) rfl)).mono ?_
   intro e w50 hpw50
   obtain⟨ax48,cp49,rfl,hmw50,hSw50⟩:=Eb hw47 (i:=2) rfl hpw50;have hnw50:n37≤w50.heap.size:=hmw50
   refine⟨_,_,rfl,hSw50, ?_⟩
   refine AC 4 10 [] [[o0],[o0,o0,(DF 1 b24 o25 c.Aj),o0,(oi i),⟨.auto [.via 0 (.slice y31.a y31.xs.length y31.cap)],some (.slice (some ⟨b39,o40,none⟩) y31.xs.length y31.cap)⟩,o0,(oi k),o0,(oa [.via 0 (i6 y46.Cc)])]] [Qb z,Df b24 o25 c.Aj,BK i,i<c.Aj.xs.length,BG,Old w b24 (o25+i) (.slice y31.a y31.xs.length y31.cap),Df b39 o40 y31,BK k,k<y31.xs.length,BG,Old w b39 (o40+k*3+1) (i6 y46.Cc)] [(1,pt z),(4,Ae i),(Fj c),(36,Ae i),(IC y31),(55,Ae k),(5,Ae k),(70,.slice ax48 ((((((((([66,75,67,49]:List Int)++leB c.Frames 4)++leB c.AX 4)++leB c.Kernel 4)++leB c.Room 4)++[(c.Aj.xs.length:Int)])++(c.Aj.xs.take i).flatMap BA++[(y31.xs.length:Int)])++(y31.xs.take k).flatMap Gv++leB (y46.Partition+1) 4).length) cp49),(79,i6 y46.Cc)] rfl ⟨rfl,CZ ha26,rfl,(by omega),rfl,Bg (hc29 0 _ rfl),CZ ha41,rfl,(by omega),rfl,Bg (hc44 1 _ rfl),Ac⟩ ?_
   refine l_call [] [] 41 #[.slice ax48 ((((((((([66,75,67,49]:List Int)++leB c.Frames 4)++leB c.AX 4)++leB c.Kernel 4)++leB c.Room 4)++[(c.Aj.xs.length:Int)])++(c.Aj.xs.take i).flatMap BA++[(y31.xs.length:Int)])++(y31.xs.take k).flatMap Gv++leB (y46.Partition+1) 4).length) cp49,i6 y46.Cc] (some 80) Ac ?_
   intro w51 hw51
   refine(DD w51 z ax48 cp49 (((((((([66,75,67,49]:List Int)++leB c.Frames 4)++leB c.AX 4)++leB c.Kernel 4)++leB c.Room 4)++[(c.Aj.xs.length:Int)])++(c.Aj.xs.take i).flatMap BA++[(y31.xs.length:Int)])++(y31.xs.take k).flatMap Gv++leB (y46.Partition+1) 4) y46.Cc (by omega) (by first | omega | (simp only[List.length_append,AY,CV,List.length_cons,List.length_nil];omega)) (Nat.le_trans (show z≤w50.heap.size by omega) (Nat.le_of_eq hw51.size.symm)) (hw51.at (i:=2) rfl)).mono ?_
   intro e w54 hpw54
   obtain⟨ax52,cp53,rfl,hmw54,hSw54⟩:=Eb hw51 (i:=2) rfl hpw54;have hnw54:w50.heap.size≤w54.heap.size:=hmw54
   refine⟨_,_,rfl,hSw54, ?_⟩
   refine AC 3 10 [] [[o0],[o0,o0,(DF 1 b24 o25 c.Aj),o0,(oi i),⟨.auto [.via 0 (.slice y31.a y31.xs.length y31.cap)],some (.slice (some ⟨b39,o40,none⟩) y31.xs.length y31.cap)⟩,o0,(oi k),o0,(oa [.via 0 (i6 y46.Dy)])]] [Qb z,Df b24 o25 c.Aj,BK i,i<c.Aj.xs.length,BG,Old w b24 (o25+i) (.slice y31.a y31.xs.length y31.cap),Df b39 o40 y31,BK k,k<y31.xs.length,BG,Old w b39 (o40+k*3+2) (i6 y46.Dy)] [(1,pt z),(4,Ae i),(Fj c),(36,Ae i),(IC y31),(55,Ae k),(81,.slice ax52 (((((((((([66,75,67,49]:List Int)++leB c.Frames 4)++leB c.AX 4)++leB c.Kernel 4)++leB c.Room 4)++[(c.Aj.xs.length:Int)])++(c.Aj.xs.take i).flatMap BA++[(y31.xs.length:Int)])++(y31.xs.take k).flatMap Gv++leB (y46.Partition+1) 4)++leB y46.Cc 4).length) cp53),(90,i6 y46.Dy)] rfl ⟨rfl,CZ ha26,rfl,(by omega),rfl,Bg (hc29 0 _ rfl),CZ ha41,rfl,(by omega),rfl,Bg (hc44 2 _ rfl),Ac⟩ ?_
   refine l_call [] [] 41 #[.slice ax52 (((((((((([66,75,67,49]:List Int)++leB c.Frames 4)++leB c.AX 4)++leB c.Kernel 4)++leB c.Room 4)++[(c.Aj.xs.length:Int)])++(c.Aj.xs.take i).flatMap BA++[(y31.xs.length:Int)])++(y31.xs.take k).flatMap Gv++leB (y46.Partition+1) 4)++leB y46.Cc 4).length) cp53,i6 y46.Dy] (some 91) Ac ?_
   intro w55 hw55
   refine(DD w55 z ax52 cp53 ((((((((([66,75,67,49]:List Int)++leB c.Frames 4)++leB c.AX 4)++leB c.Kernel 4)++leB c.Room 4)++[(c.Aj.xs.length:Int)])++(c.Aj.xs.take i).flatMap BA++[(y31.xs.length:Int)])++(y31.xs.take k).flatMap Gv++leB (y46.Partition+1) 4)++leB y46.Cc 4) y46.Dy (by omega) (by first | omega | (simp only[List.length_append,AY,CV,List.length_cons,List.length_nil];omega)) (Nat.le_trans (show z≤w54.heap.size by omega) (Nat.le_of_eq hw55.size.symm)) (hw55.at (i:=2) rfl)).mono ?_
   intro e w58 hpw58
   obtain⟨ax56,cp57,rfl,hmw58,hSw58⟩:=Eb hw55 (i:=2) rfl hpw58;have hnw58:w54.heap.size≤w58.heap.size:=hmw58
   refine⟨_,_,rfl,hSw58, ?_⟩
   refine AC 5 0 [] [[o0],[(ov (i6 ((k+1:Nat):Int))),o0]] [Wr ((k:Int)+1) (((k+1:Nat):Int))] [(1,pt z),(3,.slice ax56 ((((((((((([66,75,67,49]:List Int)++leB c.Frames 4)++leB c.AX 4)++leB c.Kernel 4)++leB c.Room 4)++[(c.Aj.xs.length:Int)])++(c.Aj.xs.take i).flatMap BA++[(y31.xs.length:Int)])++(y31.xs.take k).flatMap Gv++leB (y46.Partition+1) 4)++leB y46.Cc 4)++leB y46.Dy 4).length) cp57),(4,Ae i),(Fj c),(36,Ae i),(IC y31),(55,i6 ((k+1:Nat):Int))] rfl ⟨Bq,Ac⟩ ?_
   refine BB (fun a w' hs=>⟨y31.xs.length - (k+1),by omega,w58.heap.size,(k+1),ax56,cp57,rfl,by omega,by omega,by(try dsimp only[GY,Nl,Gi,Nk,KZ,JF,Ku,Fj,IC]at hs ⊢);rw[Gu (by omega),←hy46,gEy46];simp only[←List.append_assoc]at hs ⊢;exact hs⟩)
  refine Aw 13 0 [0] [[oF],[(ov (i6 ((i+1:Nat):Int))),o0]] [BF ((k:Int)<(y31.xs.length:Int)),Wr ((i:Int)+1) (((i+1:Nat):Int))] [(1,pt z),(JF c y31 i aW k cW),(Fj c),(36,i6 ((i+1:Nat):Int))] rfl ⟨bf,Bq,Ac⟩ ?_
  refine CG [0,1,2,3] [(A8 w),(Gi c z),(Nk c y31 z i aW k cW),(GY w16 c)] rfl rfl ?_
  refine Ce [1,3,35,36] [(1,pt z),(JF c y31 i aW k cW),(Fj c),(36,i6 ((i+1:Nat):Int))] ?_
  refine BB (fun a w' hs=>⟨c.Aj.xs.length - (i+1),by omega,n37,(i+1),aW,cW,rfl,by omega,by omega,by(try dsimp only[GY,Nl,Gi,Nk,KZ,JF,Ku,Fj,IC]at hs ⊢);have hk:k=y31.xs.length:=(by omega);rw[hk,List.take_length]at hs;rw[Gu (by omega),←hy31];unfold BA AO;simp only[←List.append_assoc]at hs ⊢;exact hs⟩)
 refine q_c 12 6 [0] [[oF],[o0,o0,(a1 1),o0,(ov (.int .u8 (c.Aa.xs.length:Int))),o0]] [BF ((i:Int)<(c.Aj.xs.length:Int)),Qb z,Value.int .u8 (IntKind.u8.wrap ((c.Aa.xs.length:Int)))=Value.int .u8 ((c.Aa.xs.length:Int))] [(1,pt z),(94,.slice aC (((((((([66,75,67,49]:List Int)++leB c.Frames 4)++leB c.AX 4)++leB c.Kernel 4)++leB c.Room 4)++[(c.Aj.xs.length:Int)])++(c.Aj.xs.take i).flatMap BA).length) cC),(99,.slice (some ⟨n22,0,none⟩) 1 1)] ⟨w,n22+1,[(A8 w),(Gi c z),(KZ c z i aC cC),(GY w16 c),(ML c n22)]⟩ rfl ⟨bf,rfl,congrArg (Value.int .u8) (LP rfl (by omega) (by omega)),Ac⟩ ?_
 refine E8 z 2 4 ((((((([66,75,67,49]:List Int)++leB c.Frames 4)++leB c.AX 4)++leB c.Kernel 4)++leB c.Room 4)++[(c.Aj.xs.length:Int)])++(c.Aj.xs.take i).flatMap BA) [(c.Aa.xs.length:Int)] Bh 5 1 1 (.slice aC (((((((([66,75,67,49]:List Int)++leB c.Frames 4)++leB c.AX 4)++leB c.Kernel 4)++leB c.Room 4)++[(c.Aj.xs.length:Int)])++(c.Aj.xs.take i).flatMap BA).length) cC) n22 1 1 #[.int .u8 (c.Aa.xs.length:Int)] 5 (0,0) true (some 100) (by first | omega | (simp only[List.length_append,AY,CV,List.length_cons,List.length_nil];omega)) (show z≤n22+1 by omega) (fun ax59 cp60 n61 (hn62:n22+1≤n61) => ?_)
 refine AC 8 0 [] [[o0],[o0,(a1 1),o0,o0]] [Qb z] [(1,pt z),(3,.slice ax59 (((((((([66,75,67,49]:List Int)++leB c.Frames 4)++leB c.AX 4)++leB c.Kernel 4)++leB c.Room 4)++[(c.Aj.xs.length:Int)])++(c.Aj.xs.take i).flatMap BA++[(c.Aa.xs.length:Int)]).length) cp60),(KW c),(104,i6 0)] rfl ⟨rfl,Ac⟩ ?_
 refine Bl (fun m a w'=>∃ (n64:Nat) (j:Nat) (aP:Option Addr) (cP:Nat),m=c.Aa.xs.length - j∧n61≤n64∧(j≤c.Aa.xs.length)∧St 154 [(1,pt z),(OL c i j aP cP),(KW c),(104,Ae j)] [] ⟨w,n64,[(A8 w),(Gi c z),(Qj c z i j aP cP),(GY w16 c),(ML c n22)]⟩ a w') (c.Aa.xs.length - 0) ?_ ?_
 ·intro a w' hs;exact⟨n61,0,ax59,cp60,rfl,Nat.le_refl _,Nat.zero_le _,by(try dsimp only[GY,ML,Nl,Gi,Qj,Nk,KZ,OL,JF,Ku,KW,Fj,IC]at hs ⊢);rw[List.take_zero,List.flatMap_nil,List.append_nil];exact hs⟩
 rintro m a w' ⟨n64,j,aP,cP,rfl,hn63,hkj,hs⟩
 refine(?_:G Try.prog 154 [(1,pt z),(OL c i j aP cP),(KW c),(104,Ae j)] [] ⟨w,n64,[(A8 w),(Gi c z),(Qj c z i j aP cP),(GY w16 c),(ML c n22)]⟩ _ _ _) a w' hs
 clear hs a w'
 have hfl3:=I9 (enc:=encPt) (K:=6000) (xs:=c.Aa.xs) j (by omega) (fun q hq=>WI (hP2 q (by omega)))
 refine Bi ?_
 by_cases h65:(j:Int)<(c.Aa.xs.length:Int)
 ·refine Aw 13 0 [1] [[oT],[o0,o0]] [BT ((j:Int)<(c.Aa.xs.length:Int))] [(1,pt z),(OL c i j aP cP),(KW c),(104,Ae j),(6,Ae j)] rfl ⟨bt,Ac⟩ ?_
  obtain⟨b66,o67,ha68,hF70,hc69⟩:=(hcl.Aa).1.all (show 0<c.Aa.xs.length by omega)
  replace ha68:c.Aa.a=some ⟨b66,o67,none⟩:=ha68
  have hc71:=hc69 j (show j<c.Aa.xs.length by omega)
  have he72:=(hcl.Aa).2 j (show j<c.Aa.xs.length by omega)
  obtain⟨y73,hy73⟩:∃ y_,y_=gd c.Aa.xs j:=⟨_,rfl⟩
  rw[←hy73]at he72 hc71
  refine Aw 1 6 [] [[o0,o0,(DF 1 b66 o67 c.Aa),o0,(oi j),(ol 0 (Ag.arr y73))]] [Qb z,Df b66 o67 c.Aa,BK j,j<c.Aa.xs.length,BG,Fq w b66 (o67+j*8) (Ag.arr y73)] [(1,pt z),(KW c),(104,Ae j),(107,.slice aP ((((((((([66,75,67,49]:List Int)++leB c.Frames 4)++leB c.AX 4)++leB c.Kernel 4)++leB c.Room 4)++[(c.Aj.xs.length:Int)])++(c.Aj.xs.take i).flatMap BA++[(c.Aa.xs.length:Int)])++(c.Aa.xs.take j).flatMap encPt).length) cP),(112,.agg (Ag.arr y73))] rfl ⟨rfl,CZ ha68,rfl,(by omega),rfl,D6 hc71,Ac⟩ ?_
  refine l_call [] [] 43 #[.slice aP ((((((((([66,75,67,49]:List Int)++leB c.Frames 4)++leB c.AX 4)++leB c.Kernel 4)++leB c.Room 4)++[(c.Aj.xs.length:Int)])++(c.Aj.xs.take i).flatMap BA++[(c.Aa.xs.length:Int)])++(c.Aa.xs.take j).flatMap encPt).length) cP,.agg (Ag.arr y73)] (some 113) Ac ?_
  intro w74 hw74
  have hew74:Ext (fun b=>b<w.heap.size) w w74:=fun b k v _ hv=>(hw74.ext rfl) _ _ _ Ac hv;have hFw74:∀ b,b<w.heap.size→Dt w74 (fun b=>(Value.slice aP ((((((((([66,75,67,49]:List Int)++leB c.Frames 4)++leB c.AX 4)++leB c.Kernel 4)++leB c.Room 4)++[(c.Aj.xs.length:Int)])++(c.Aj.xs.take i).flatMap BA++[(c.Aa.xs.length:Int)])++(c.Aa.xs.take j).flatMap encPt).length) cP).ownBlock=some b) b:=fun b hb=>⟨Nat.lt_of_lt_of_le hb (by rw[hw74.size];show w.heap.size≤n64;omega),hw74.far rfl (i:=2) rfl (by decide) rfl b hb⟩
  refine(WT w74 z aP cP (((((((([66,75,67,49]:List Int)++leB c.Frames 4)++leB c.AX 4)++leB c.Kernel 4)++leB c.Room 4)++[(c.Aj.xs.length:Int)])++(c.Aj.xs.take i).flatMap BA++[(c.Aa.xs.length:Int)])++(c.Aa.xs.take j).flatMap encPt) y73 (Ag.ok.ext hew74 hFw74 he72) (by rw[hy73];exact hP2 _ (by omega)) (by first | omega | (simp only[List.length_append,AY,CV,List.length_cons,List.length_nil];omega)) (Nat.le_trans (show z≤n64 by omega) (Nat.le_of_eq hw74.size.symm)) (hw74.at (i:=2) rfl)).mono ?_
  intro e w77 hpw77
  obtain⟨ax75,cp76,rfl,hmw77,hSw77⟩:=Eb hw74 (i:=2) rfl hpw77;have hnw77:n64≤w77.heap.size:=hmw77
  refine⟨_,_,rfl,hSw77, ?_⟩
  refine AC 5 0 [] [[o0],[(ov (i6 ((j+1:Nat):Int))),o0]] [Wr ((j:Int)+1) (((j+1:Nat):Int))] [(1,pt z),(3,.slice ax75 ((((((((([66,75,67,49]:List Int)++leB c.Frames 4)++leB c.AX 4)++leB c.Kernel 4)++leB c.Room 4)++[(c.Aj.xs.length:Int)])++(c.Aj.xs.take i).flatMap BA++[(c.Aa.xs.length:Int)])++(c.Aa.xs.take j).flatMap encPt++encPt y73).length) cp76),(KW c),(104,i6 ((j+1:Nat):Int))] rfl ⟨Bq,Ac⟩ ?_
  refine BB (fun a w' hs=>⟨c.Aa.xs.length - (j+1),by omega,w77.heap.size,(j+1),ax75,cp76,rfl,by omega,by omega,by(try dsimp only[GY,ML,Nl,Gi,Qj,Nk,KZ,OL,JF,Ku,KW,Fj,IC]at hs ⊢);rw[Gu (by omega),←hy73,←List.append_assoc];exact hs⟩)
 refine q_c 12 6 [0] [[oF],[o0,o0,(a1 1),o0,(ov (.int .u8 (c.Ah.xs.length:Int))),o0]] [BF ((j:Int)<(c.Aa.xs.length:Int)),Qb z,Value.int .u8 (IntKind.u8.wrap ((c.Ah.xs.length:Int)))=Value.int .u8 ((c.Ah.xs.length:Int))] [(1,pt z),(115,.slice aP ((((((((([66,75,67,49]:List Int)++leB c.Frames 4)++leB c.AX 4)++leB c.Kernel 4)++leB c.Room 4)++[(c.Aj.xs.length:Int)])++(c.Aj.xs.take i).flatMap BA++[(c.Aa.xs.length:Int)])++(c.Aa.xs.take j).flatMap encPt).length) cP),(120,.slice (some ⟨n64,0,none⟩) 1 1)] ⟨w,n64+1,[(A8 w),(Gi c z),(Qj c z i j aP cP),(GY w16 c),(ML c n22),(TN c n64)]⟩ rfl ⟨bf,rfl,congrArg (Value.int .u8) (LP rfl (by omega) (by omega)),Ac⟩ ?_
 refine E8 z 2 5 (((((((([66,75,67,49]:List Int)++leB c.Frames 4)++leB c.AX 4)++leB c.Kernel 4)++leB c.Room 4)++[(c.Aj.xs.length:Int)])++(c.Aj.xs.take i).flatMap BA++[(c.Aa.xs.length:Int)])++(c.Aa.xs.take j).flatMap encPt) [(c.Ah.xs.length:Int)] Bh 5 1 1 (.slice aP ((((((((([66,75,67,49]:List Int)++leB c.Frames 4)++leB c.AX 4)++leB c.Kernel 4)++leB c.Room 4)++[(c.Aj.xs.length:Int)])++(c.Aj.xs.take i).flatMap BA++[(c.Aa.xs.length:Int)])++(c.Aa.xs.take j).flatMap encPt).length) cP) n64 1 1 #[.int .u8 (c.Ah.xs.length:Int)] 5 (0,0) true (some 121) (by first | omega | (simp only[List.length_append,AY,CV,List.length_cons,List.length_nil];omega)) (show z≤n64+1 by omega) (fun ax78 cp79 n80 (hn81:n64+1≤n80) => ?_)
 refine AC 8 0 [] [[o0],[o0,(a1 1),o0,o0]] [Qb z] [(1,pt z),(3,.slice ax78 ((((((((([66,75,67,49]:List Int)++leB c.Frames 4)++leB c.AX 4)++leB c.Kernel 4)++leB c.Room 4)++[(c.Aj.xs.length:Int)])++(c.Aj.xs.take i).flatMap BA++[(c.Aa.xs.length:Int)])++(c.Aa.xs.take j).flatMap encPt++[(c.Ah.xs.length:Int)]).length) cp79),(L6 c),(125,i6 0)] rfl ⟨rfl,Ac⟩ ?_
 refine Bl (fun m a w'=>∃ (n83:Nat) (k2:Nat) (aD:Option Addr) (cD:Nat),m=c.Ah.xs.length - k2∧n80≤n83∧(k2≤c.Ah.xs.length)∧St 154 [(1,pt z),(Uo c aD i j k2 cD),(L6 c),(125,Ae k2)] [] ⟨w,n83,[(A8 w),(Gi c z),(TT c z aD i j k2 cD),(GY w16 c),(ML c n22),(TN c n64)]⟩ a w') (c.Ah.xs.length - 0) ?_ ?_
 ·intro a w' hs;exact⟨n80,0,ax78,cp79,rfl,Nat.le_refl _,Nat.zero_le _,by(try dsimp only[GY,ML,TN,Nl,Gi,TT,Qj,Nk,KZ,Uo,OL,JF,Ku,KW,L6,Fj,IC]at hs ⊢);rw[List.take_zero,List.flatMap_nil,List.append_nil];exact hs⟩
 rintro m a w' ⟨n83,k2,aD,cD,rfl,hn82,hkk2,hs⟩
 refine(?_:G Try.prog 154 [(1,pt z),(Uo c aD i j k2 cD),(L6 c),(125,Ae k2)] [] ⟨w,n83,[(A8 w),(Gi c z),(TT c z aD i j k2 cD),(GY w16 c),(ML c n22),(TN c n64)]⟩ _ _ _) a w' hs
 clear hs a w'
 have hfl4:=I9 (enc:=Dv) (K:=12) (xs:=c.Ah.xs) k2 (by omega) (fun q _=>by rw[Ry];exact Nat.le_refl _)
 refine Bi ?_
 by_cases h84:(k2:Int)<(c.Ah.xs.length:Int)
 ·refine Aw 14 0 [1] [[oT],[o0,o0]] [BT ((k2:Int)<(c.Ah.xs.length:Int))] [(1,pt z),(Uo c aD i j k2 cD),(L6 c),(125,Ae k2),(7,Ae k2)] rfl ⟨bt,Ac⟩ ?_
  obtain⟨b85,o86,ha87,hF89,hc88⟩:=(hcl.Ah).1.all (show 0<c.Ah.xs.length by omega)
  replace ha87:c.Ah.a=some ⟨b85,o86,none⟩:=ha87
  have hc90:=hc88 k2 (show k2<c.Ah.xs.length by omega)
  have he91:=(hcl.Ah).2 k2 (show k2<c.Ah.xs.length by omega)
  obtain⟨y92,hy92⟩:∃ y_,y_=gd c.Ah.xs k2:=⟨_,rfl⟩
  rw[←hy92]at he91 hc90
  have hyy92:=okC_has (hC2 k2 (by omega));rw[←hy92]at hyy92;obtain⟨⟨g1y92,g2y92⟩,⟨g3y92,g4y92⟩,g5y92,g6y92⟩:=hyy92
  refine Aw 1 7 [] [[o0,o0,(DF 1 b85 o86 c.Ah),o0,(oi k2),o0,(oa [.via 0 (i6 y92.Kind)])]] [Qb z,Df b85 o86 c.Ah,BK k2,k2<c.Ah.xs.length,BG,Old w b85 (o86+k2*3) (i6 y92.Kind)] [(1,pt z),(L6 c),(125,Ae k2),(7,Ae k2),(128,.slice aD (((((((((([66,75,67,49]:List Int)++leB c.Frames 4)++leB c.AX 4)++leB c.Kernel 4)++leB c.Room 4)++[(c.Aj.xs.length:Int)])++(c.Aj.xs.take i).flatMap BA++[(c.Aa.xs.length:Int)])++(c.Aa.xs.take j).flatMap encPt++[(c.Ah.xs.length:Int)])++(c.Ah.xs.take k2).flatMap Dv).length) cD),(134,i6 y92.Kind)] rfl ⟨rfl,CZ ha87,rfl,(by omega),rfl,Bg (hc90 0 _ rfl),Ac⟩ ?_
  refine l_call [] [] 41 #[.slice aD (((((((((([66,75,67,49]:List Int)++leB c.Frames 4)++leB c.AX 4)++leB c.Kernel 4)++leB c.Room 4)++[(c.Aj.xs.length:Int)])++(c.Aj.xs.take i).flatMap BA++[(c.Aa.xs.length:Int)])++(c.Aa.xs.take j).flatMap encPt++[(c.Ah.xs.length:Int)])++(c.Ah.xs.take k2).flatMap Dv).length) cD,i6 y92.Kind] (some 135) Ac ?_
  intro w93 hw93
  refine(DD w93 z aD cD ((((((((([66,75,67,49]:List Int)++leB c.Frames 4)++leB c.AX 4)++leB c.Kernel 4)++leB c.Room 4)++[(c.Aj.xs.length:Int)])++(c.Aj.xs.take i).flatMap BA++[(c.Aa.xs.length:Int)])++(c.Aa.xs.take j).flatMap encPt++[(c.Ah.xs.length:Int)])++(c.Ah.xs.take k2).flatMap Dv) y92.Kind (by omega) (by first | omega | (simp only[List.length_append,AY,CV,List.length_cons,List.length_nil];omega)) (Nat.le_trans (show z≤n83 by omega) (Nat.le_of_eq hw93.size.symm)) (hw93.at (i:=2) rfl)).mono ?_
  intro e w96 hpw96
  obtain⟨ax94,cp95,rfl,hmw96,hSw96⟩:=Eb hw93 (i:=2) rfl hpw96;have hnw96:n83≤w96.heap.size:=hmw96
  refine⟨_,_,rfl,hSw96, ?_⟩
  refine AC 4 7 [] [[o0],[o0,o0,(DF 1 b85 o86 c.Ah),o0,(oi k2),o0,(oa [.via 0 (i6 y92.Words)])]] [Qb z,Df b85 o86 c.Ah,BK k2,k2<c.Ah.xs.length,BG,Old w b85 (o86+k2*3+1) (i6 y92.Words)] [(1,pt z),(L6 c),(125,Ae k2),(7,Ae k2),(136,.slice ax94 (((((((((([66,75,67,49]:List Int)++leB c.Frames 4)++leB c.AX 4)++leB c.Kernel 4)++leB c.Room 4)++[(c.Aj.xs.length:Int)])++(c.Aj.xs.take i).flatMap BA++[(c.Aa.xs.length:Int)])++(c.Aa.xs.take j).flatMap encPt++[(c.Ah.xs.length:Int)])++(c.Ah.xs.take k2).flatMap Dv++leB y92.Kind 4).length) cp95),(142,i6 y92.Words)] rfl ⟨rfl,CZ ha87,rfl,(by omega),rfl,Bg (hc90 1 _ rfl),Ac⟩ ?_
  refine l_call [] [] 41 #[.slice ax94 (((((((((([66,75,67,49]:List Int)++leB c.Frames 4)++leB c.AX 4)++leB c.Kernel 4)++leB c.Room 4)++[(c.Aj.xs.length:Int)])++(c.Aj.xs.take i).flatMap BA++[(c.Aa.xs.length:Int)])++(c.Aa.xs.take j).flatMap encPt++[(c.Ah.xs.length:Int)])++(c.Ah.xs.take k2).flatMap Dv++leB y92.Kind 4).length) cp95,i6 y92.Words] (some 143) Ac ?_
  intro w97 hw97
  refine(DD w97 z ax94 cp95 ((((((((([66,75,67,49]:List Int)++leB c.Frames 4)++leB c.AX 4)++leB c.Kernel 4)++leB c.Room 4)++[(c.Aj.xs.length:Int)])++(c.Aj.xs.take i).flatMap BA++[(c.Aa.xs.length:Int)])++(c.Aa.xs.take j).flatMap encPt++[(c.Ah.xs.length:Int)])++(c.Ah.xs.take k2).flatMap Dv++leB y92.Kind 4) y92.Words (by omega) (by first | omega | (simp only[List.length_append,AY,CV,List.length_cons,List.length_nil];omega)) (Nat.le_trans (show z≤w96.heap.size by omega) (Nat.le_of_eq hw97.size.symm)) (hw97.at (i:=2) rfl)).mono ?_
  intro e w100 hpw100
  obtain⟨ax98,cp99,rfl,hmw100,hSw100⟩:=Eb hw97 (i:=2) rfl hpw100;have hnw100:w96.heap.size≤w100.heap.size:=hmw100
  refine⟨_,_,rfl,hSw100, ?_⟩
  refine AC 3 7 [] [[o0],[o0,o0,(DF 1 b85 o86 c.Ah),o0,(oi k2),o0,(oa [.via 0 (i6 y92.Ei)])]] [Qb z,Df b85 o86 c.Ah,BK k2,k2<c.Ah.xs.length,BG,Old w b85 (o86+k2*3+2) (i6 y92.Ei)] [(1,pt z),(L6 c),(125,Ae k2),(144,.slice ax98 ((((((((((([66,75,67,49]:List Int)++leB c.Frames 4)++leB c.AX 4)++leB c.Kernel 4)++leB c.Room 4)++[(c.Aj.xs.length:Int)])++(c.Aj.xs.take i).flatMap BA++[(c.Aa.xs.length:Int)])++(c.Aa.xs.take j).flatMap encPt++[(c.Ah.xs.length:Int)])++(c.Ah.xs.take k2).flatMap Dv++leB y92.Kind 4)++leB y92.Words 4).length) cp99),(150,i6 y92.Ei)] rfl ⟨rfl,CZ ha87,rfl,(by omega),rfl,Bg (hc90 2 _ rfl),Ac⟩ ?_
  refine l_call [] [] 41 #[.slice ax98 ((((((((((([66,75,67,49]:List Int)++leB c.Frames 4)++leB c.AX 4)++leB c.Kernel 4)++leB c.Room 4)++[(c.Aj.xs.length:Int)])++(c.Aj.xs.take i).flatMap BA++[(c.Aa.xs.length:Int)])++(c.Aa.xs.take j).flatMap encPt++[(c.Ah.xs.length:Int)])++(c.Ah.xs.take k2).flatMap Dv++leB y92.Kind 4)++leB y92.Words 4).length) cp99,i6 y92.Ei] (some 151) Ac ?_
  intro w101 hw101
  refine(DD w101 z ax98 cp99 (((((((((([66,75,67,49]:List Int)++leB c.Frames 4)++leB c.AX 4)++leB c.Kernel 4)++leB c.Room 4)++[(c.Aj.xs.length:Int)])++(c.Aj.xs.take i).flatMap BA++[(c.Aa.xs.length:Int)])++(c.Aa.xs.take j).flatMap encPt++[(c.Ah.xs.length:Int)])++(c.Ah.xs.take k2).flatMap Dv++leB y92.Kind 4)++leB y92.Words 4) y92.Ei (by omega) (by first | omega | (simp only[List.length_append,AY,CV,List.length_cons,List.length_nil];omega)) (Nat.le_trans (show z≤w100.heap.size by omega) (Nat.le_of_eq hw101.size.symm)) (hw101.at (i:=2) rfl)).mono ?_
  intro e w104 hpw104
  obtain⟨ax102,cp103,rfl,hmw104,hSw104⟩:=Eb hw101 (i:=2) rfl hpw104;have hnw104:w100.heap.size≤w104.heap.size:=hmw104
  refine⟨_,_,rfl,hSw104, ?_⟩
  refine AC 5 0 [] [[o0],[(ov (i6 ((k2+1:Nat):Int))),o0]] [Wr ((k2:Int)+1) (((k2+1:Nat):Int))] [(1,pt z),(3,.slice ax102 (((((((((((([66,75,67,49]:List Int)++leB c.Frames 4)++leB c.AX 4)++leB c.Kernel 4)++leB c.Room 4)++[(c.Aj.xs.length:Int)])++(c.Aj.xs.take i).flatMap BA++[(c.Aa.xs.length:Int)])++(c.Aa.xs.take j).flatMap encPt++[(c.Ah.xs.length:Int)])++(c.Ah.xs.take k2).flatMap Dv++leB y92.Kind 4)++leB y92.Words 4)++leB y92.Ei 4).length) cp103),(L6 c),(125,i6 ((k2+1:Nat):Int))] rfl ⟨Bq,Ac⟩ ?_
  refine BB (fun a w' hs=>⟨c.Ah.xs.length - (k2+1),by omega,w104.heap.size,(k2+1),ax102,cp103,rfl,by omega,by omega,by(try dsimp only[GY,ML,TN,Nl,Gi,TT,Qj,Nk,KZ,Uo,OL,JF,Ku,KW,L6,Fj,IC]at hs ⊢);rw[Gu (by omega),←hy92];unfold Dv;simp only[←List.append_assoc]at hs ⊢;exact hs⟩)
 refine Aw 15 0 [0] [[oF],[o0,o0]] [BF ((k2:Int)<(c.Ah.xs.length:Int))] [(2,.slice aD (((((((((([66,75,67,49]:List Int)++leB c.Frames 4)++leB c.AX 4)++leB c.Kernel 4)++leB c.Room 4)++[(c.Aj.xs.length:Int)])++(c.Aj.xs.take i).flatMap BA++[(c.Aa.xs.length:Int)])++(c.Aa.xs.take j).flatMap encPt++[(c.Ah.xs.length:Int)])++(c.Ah.xs.take k2).flatMap Dv).length) cD)] rfl ⟨bf,Ac⟩ ?_
 refine AU [] [] (.slice aD (((((((((([66,75,67,49]:List Int)++leB c.Frames 4)++leB c.AX 4)++leB c.Kernel 4)++leB c.Room 4)++[(c.Aj.xs.length:Int)])++(c.Aj.xs.take i).flatMap BA++[(c.Aa.xs.length:Int)])++(c.Aa.xs.take j).flatMap encPt++[(c.Ah.xs.length:Int)])++(c.Ah.xs.take k2).flatMap Dv).length) cD) Ac ?_
 intro w105 hw105
 have hrow:=hw105.at (i:=2) (c:=(TT c z aD i j k2 cD)) rfl
 (try dsimp only[GY,ML,TN,Nl,Gi,TT,Qj,Nk,KZ,Uo,OL,JF,Ku,KW,L6,Fj,IC]at hrow)
 have hT1:c.Aj.xs.take i=c.Aj.xs:=by rw[show i=c.Aj.xs.length from by omega,List.take_length]
 have hT2:c.Aa.xs.take j=c.Aa.xs:=by rw[show j=c.Aa.xs.length from by omega,List.take_length]
 have hT3:c.Ah.xs.take k2=c.Ah.xs:=by rw[show k2=c.Ah.xs.length from by omega,List.take_length]
 have hE:(((((((([66,75,67,49]:List Int)++leB c.Frames 4)++leB c.AX 4)++leB c.Kernel 4)++leB c.Room 4)++[(c.Aj.xs.length:Int)])++(c.Aj.xs.take i).flatMap BA++[(c.Aa.xs.length:Int)])++(c.Aa.xs.take j).flatMap encPt++[(c.Ah.xs.length:Int)])++(c.Ah.xs.take k2).flatMap Dv=Ko c:=by rw[hT1,hT2,hT3];unfold Ko;rw[head_bytes];simp only[AO,EU,List.flatMap_cons,List.flatMap_nil,List.append_nil,List.append_assoc]
 rw[hE]at hrow ⊢
 exact⟨_,_,rfl,Wv hrow (by omega),A7 hw105⟩
theorem summed_calls(w:World)(b:Sl Int)(hb:BD Bh 1 Any w b)(hl:b.xs.length≤3000000):Calls Try.prog 14 #[.slice b.a b.xs.length b.cap] w fun e w'=>∃ a2 cap2,e = .returned (.slice a2 (b.xs++leB (EE b.xs) 4).length cap2)∧w'.ownsRow w.heap.size 5 1 (.slice a2 (b.xs++leB (EE b.xs) 4).length cap2) (b.xs++leB (EE b.xs) 4).length ((b.xs++leB (EE b.xs) 4).flatMap Bh)∧AV (fun _=>False) w w':=by
 obtain⟨z,hz⟩:∃ z,z=w.heap.size:=⟨_,rfl⟩
 refine Bc (args:=[.slice b.a b.xs.length b.cap]) 12 ⟨w,z,[(A8 w)]⟩ Try.func14 rfl (by kernel_rfl) (by kernel_rfl) (EW hz) ?_
 have hsb:=QU b.xs
 refine Bj [0] [(0,.slice b.a b.xs.length b.cap)] ?_
 refine q_c 6 2 [] [[o0],[o0,o0]] [] [(0,.slice b.a b.xs.length b.cap),(4,.slice (some ⟨z,0,none⟩) 0 0),(5,.slice b.a b.xs.length b.cap)] ⟨w,z+1,[(A8 w),(bk z #[] 5)]⟩ rfl Ac ?_
 refine l_blkrow 1 z z 5 1 (fun x:Int=>[Value.int .u8 x]) ([]:List Int) #[] (by omega) (?_:Lg _ _ _ _ ⟨w,z+1,[(A8 w),(Au z 5 1 (fun x:Int=>[Value.int .u8 x]) (.slice (some ⟨z,0,none⟩) 0 0) ([]:List Int))]⟩ _ _ _ _)
 refine Nv z 1 0 ([]:List Int) b.xs b.a (fun x:Int=>[Value.int .u8 x]) 5 1 1 (.slice (some ⟨z,0,none⟩) 0 0) b.xs.length b.cap (A8 w) (some 6) (by first | omega | (simp only[List.length_append,AY,CV,List.length_cons,List.length_nil];omega)) (show z≤z+1 by omega) (fun w' hw=>Bf (fun b k v _ hv=>Bg hv w' hw) (fun _ h=>h) hb) (fun ax1 cp2 n3 (hn4:z+1≤n3) => ?_)
 refine AC 4 2 [] [[o0],[o0,o0]] [] [(7,.slice ax1 ((([]:List Int)++b.xs).length) cp2),(8,.slice b.a b.xs.length b.cap)] rfl Ac ?_
 refine l_call [] [] 42 #[.slice b.a b.xs.length b.cap] (some 9) Ac ?_
 intro w5 hw5
 refine(Yj w5 b (Bf (hw5.ext rfl) (fun _ h=>h) hb)).mono ?_
 rintro e w6 ⟨rfl,hkw6⟩
 have hnw6:n3≤w6.heap.size:=AB hw5 hkw6
 refine⟨_,_,rfl,hw5.keeps hkw6, ?_⟩
 refine AC 0 1 [] [[(ov (i6 (EE b.xs)))]] [Wr ((EE b.xs)) ((EE b.xs))] [(7,.slice ax1 ((([]:List Int)++b.xs).length) cp2),(10,i6 (EE b.xs))] rfl ⟨Bq rfl,Ac⟩ ?_
 refine l_call [] [] 41 #[.slice ax1 ((([]:List Int)++b.xs).length) cp2,i6 (EE b.xs)] (some 11) Ac ?_
 intro w7 hw7
 refine(DD w7 z ax1 cp2 (([]:List Int)++b.xs) (EE b.xs) (by omega) (by first | omega | (simp only[List.length_append,AY,CV,List.length_cons,List.length_nil];omega)) (Nat.le_trans (show z≤w6.heap.size by omega) (Nat.le_of_eq hw7.size.symm)) (hw7.at (i:=1) rfl)).mono ?_
 intro e w10 hpw10
 obtain⟨ax8,cp9,rfl,hmw10,hSw10⟩:=Eb hw7 (i:=1) rfl hpw10;have hnw10:w6.heap.size≤w10.heap.size:=hmw10
 refine⟨_,_,rfl,hSw10, ?_⟩
 refine AC 3 0 [] [[o0]] [] [(2,.slice ax8 (((([]:List Int)++b.xs)++leB (EE b.xs) 4).length) cp9)] rfl Ac ?_
 refine AU [] [] (.slice ax8 (((([]:List Int)++b.xs)++leB (EE b.xs) 4).length) cp9) Ac ?_
 intro w11 hw11
 have hrow:=hw11.at (i:=1) (c:=(Au z 5 1 (fun x:Int=>[Value.int .u8 x]) (.slice ax8 (((([]:List Int)++b.xs)++leB (EE b.xs) 4).length) cp9) ((([]:List Int)++b.xs)++leB (EE b.xs) 4))) rfl
 skip
 rw[List.nil_append]at hrow ⊢
 exact⟨_,_,rfl,Wv hrow (by omega),A7 hw11⟩
theorem Zp(w:World)(c:Am)(hc:Am.ok Any w c):Calls Try.prog 5 #[.agg (Am.arr c)] w fun e w'=>EncPost w c e w':=by
 obtain⟨z,hz⟩:∃ z,z=w.heap.size:=⟨_,rfl⟩
 refine Bc (args:=[.agg (Am.arr c)]) 15 ⟨w,z,[(A8 w)]⟩ Try.func5 rfl (by kernel_rfl) (by kernel_rfl) (EW hz) ?_
 refine Bj [0] [(0,.agg (Am.arr c))] ?_
 refine q_c 7 1 [] [[o0,o0,o0],[(an 7 1)]] [Qb z,Qb z,Qb z,Qb z,Qb z,Qb z,Qb z] [(1,pt z),(5,.agg (Am.arr c))] ⟨w,z+1,[(A8 w),(bk z (Am.arr c) 26)]⟩ rfl ⟨rfl,rfl,rfl,rfl,rfl,rfl,rfl,Ac⟩ ?_
 refine Uy 13 #[.agg (Am.arr c)] (some 6) (.bool (FQ c)) (fun w1 hw1=>holds_calls w1 c (hc.ext (hw1.ext rfl) (fun _ h=>h))) (fun n2 (hn3:z+1≤n2) => ?_)
 refine DX [1,6] [(1,pt z),(6,.bool (FQ c))] ?_
 by_cases h4:(FQ c)=true
 ·refine AC 7 1 [0] [[(ov (.bool false))],[(an 7 1)]] [Value.bool (!(FQ c))=Value.bool false,Qb z,Qb z,Qb z,Qb z,Qb z,Qb z,Qb z] [(8,.agg (Am.arr c))] rfl ⟨by simp[h4],rfl,rfl,rfl,rfl,rfl,rfl,rfl,Ac⟩ ?_
  refine l_call [] [] 15 #[.agg (Am.arr c)] (some 9) Ac ?_
  intro w5 hw5
  refine(form_calls w5 c (hc.ext (hw5.ext rfl) (fun _ h=>h)) h4).mono ?_
  rintro e w8 ⟨ax6,cp7,rfl,how8,hkw8⟩
  have hnw8:n2≤w8.heap.size:=AB hw5 hkw8
  rw[hw5.size]at how8
  refine⟨_,_,rfl,hw5.Le hkw8 (Au n2 5 1 Bh (.slice ax6 ((Ko c).length) cp7) (Ko c)) how8 (D9 _ _ _ _ _ _) (fun b hb=>how8.lt b hb), ?_⟩
  refine DX [9] [(9,.slice ax6 ((Ko c).length) cp7)] ?_
  refine l_call [] [] 14 #[.slice ax6 ((Ko c).length) cp7] (some 10) Ac ?_
  intro w9 hw9
  refine(summed_calls w9 ⟨ax6,cp7,(Ko c)⟩ (rowU_any hw9 (i:=2) rfl (by have:=ZT h4;omega)) (ZT h4)).mono ?_
  rintro e w12 ⟨ax10,cp11,rfl,how12,hkw12⟩
  have hnw12:w8.heap.size≤w12.heap.size:=AB hw9 hkw12
  rw[hw9.size]at how12
  refine⟨_,_,rfl,hw9.Le hkw12 (Au w8.heap.size 5 1 Bh (.slice ax10 ((Ji c).length) cp11) (Ji c)) how12 (D9 _ _ _ _ _ _) (fun b hb=>how12.lt b hb), ?_⟩
  refine AC 4 0 [] [[o0]] [] [(4,.slice ax10 ((Ji c).length) cp11)] rfl Ac ?_
  by_cases h13:(16384:Int)<(((Ji c).length:Nat):Int)
  ·refine Aw 9 0 [1] [[o0,o0,oT],[o0,o0]] [BT (((((Ji c).length:Nat):Int):Int) > 16384)] [(2,.slice none 0 0),(3,i6 2)] rfl ⟨bt,Ac⟩ ?_
   refine AU [] [] (.tuple #[.slice none 0 0,i6 2]) Ac ?_
   intro w14 hw14
   exact⟨.inr (.inl ⟨h4,by omega,rfl⟩),A7 hw14⟩
  refine Aw 11 0 [0] [[o0,o0,oF],[o0,o0,o0]] [BF (((((Ji c).length:Nat):Int):Int) > 16384)] [(2,.slice ax10 ((Ji c).length) cp11),(3,i6 0)] rfl ⟨bf,Ac⟩ ?_
  refine AU [] [] (.tuple #[.slice ax10 ((Ji c).length) cp11,i6 0]) Ac ?_
  intro w15 hw15
  have hrow:=hw15.at (i:=3) (c:=(Au w8.heap.size 5 1 Bh (.slice ax10 ((Ji c).length) cp11) (Ji c))) rfl
  exact⟨.inl ⟨h4,by omega,_,_,rfl,Wv hrow (by omega)⟩,A7 hw15⟩
 refine AC 8 0 [1] [[(ov (.bool true))],[o0,o0]] [Value.bool (!(FQ c))=Value.bool true] [(2,.slice none 0 0),(3,i6 112)] rfl ⟨by simp[h4],Ac⟩ ?_
 refine AU [] [] (.tuple #[.slice none 0 0,i6 112]) Ac ?_
 intro w16 hw16
 exact⟨.inr (.inr ⟨Bool.eq_false_iff.2 h4,rfl⟩),A7 hw16⟩
theorem Ef.app{xs ys:List Int}(h:Ef xs)(k:Ef ys):Ef (xs++ys):=fun x hx=>(List.mem_append.1 hx).elim (h x) (k x)
theorem Ef.flat{α:Type}[Inhabited α]{enc:α→List Int}{xs:List α}(h:∀ q,q<xs.length→Ef (enc (gd xs q))):Ef (xs.flatMap enc):=by
 intro x hx
 obtain⟨y,hy,hxy⟩:=List.mem_flatMap.1 hx
 obtain⟨i,hi,rfl⟩:=List.getElem_of_mem hy
 exact h i hi x (by rw[Di hi];exact hxy)
theorem IA(n:Int)(k:Nat):Ef (leB n k):=by
 intro x hx
 obtain⟨i, -,rfl⟩:=List.mem_map.1 hx
 omega
theorem strB_byt(t:ByteArray):Ef (Ci t):=by
 intro x hx
 obtain⟨b, -,rfl⟩:=List.mem_map.1 hx
 have:=b.toNat_lt
 omega
theorem Yt{n:Int}(h0:0≤n)(h1:n<256):Ef [n]:=by
 intro x hx
 simp only[List.mem_singleton]at hx
 subst hx;exact⟨h0,h1⟩
theorem nil_byt:Ef []:=fun x hx=>by cases hx
theorem QL{α:Type}[Inhabited α]{enc:α→List Int}{xs:List α}(hl:xs.length≤255)(h:∀ q,q<xs.length→Ef (enc (gd xs q))):Ef (AO enc xs):=(Yt (by omega) (by omega)).app (Ef.flat h)
theorem encW_byt(x:Af):Ef (Gv x):=((IA _ _).app (IA _ _)).app (IA _ _)
theorem encR_byt(x:Ak):Ef (encR x):=(((IA _ _).app (IA _ _)).app (IA _ _)).app (IA _ _)
theorem encC_byt(x:Ar):Ef (Dv x):=((IA _ _).app (IA _ _)).app (IA _ _)
theorem encP_byt(x:Ap):Ef (EI x):=by
 unfold EI
 refine(IA _ _).app ?_
 split
 ·exact Yt (by omega) (by omega)
 exact Yt (by omega) (by omega)
theorem encPt_byt{x:Ag}(h:FT x=true):Ef (encPt x):=by
 obtain⟨-, -, -, -, -, -,h1,h2, -, -⟩:=Zad h
 refine((Ef.app (Ef.app ((IA _ _).app (strB_byt _)) ?_) (QL h1 (fun q _=>encR_byt _))).app (QL h2 (fun q _=>encP_byt _)))
 exact Ef.flat (fun q _=>IA _ _)
theorem Zz{c:Am}(h:FQ c=true):Ef (Ji c):=by
 obtain⟨-,h1,h2,h3⟩:=WM h
 obtain⟨l1,a1⟩:=Qp h1
 obtain⟨l2,a2⟩:=Qp h2
 obtain⟨l3, -⟩:=Qp h3
 refine Ef.app ?_ (IA _ _)
 unfold Ko
 exact((Ef.app (Ef.app ((IA _ _).app (Ef.flat (enc:=fun n=>leB n 4) (fun q _=>IA _ _))) (QL l1 (fun q hq=>QL (Qp (a1 q hq)).1 (fun r _=>encW_byt _)))) (QL l2 (fun q hq=>encPt_byt (a2 q hq)))).app (QL l3 (fun q _=>encC_byt _)))
theorem sameb_calls(w:World)(la lb:Sl Int)(ha:BD Bh 1 Any w la)(hb:BD Bh 1 Any w lb)(hra:Ef la.xs)(hrb:Ef lb.xs):Calls Try.prog 11 #[.slice la.a la.xs.length la.cap,.slice lb.a lb.xs.length lb.cap] w fun e w'=>e = .returned (.bool (decide (la.xs=lb.xs)))∧AV (fun _=>False) w w':=by
 obtain⟨z,hz⟩:∃ z,z=w.heap.size:=⟨_,rfl⟩
 refine Bc (args:=[.slice la.a la.xs.length la.cap,.slice lb.a lb.xs.length lb.cap]) 10 ⟨w,z,[(A8 w)]⟩ Try.func11 rfl (by kernel_rfl) (by kernel_rfl) (EW hz) ?_
 refine Bj [0,1] [(0,.slice la.a la.xs.length la.cap),(1,.slice lb.a lb.xs.length lb.cap)] ?_
 refine Aw 6 1 [] [[o0],[o0]] [] [(1,.slice lb.a lb.xs.length lb.cap),(5,.slice la.a la.xs.length la.cap)] rfl Ac ?_
 refine N7 0 la.xs la.a la.xs.length la.cap (A8 w) (some 6) hra (fun w' hw=>Bf (fun b k v _ hv=>Bg hv w' hw) (fun _ h=>h) ha) ?_
 refine AC 0 1 [] [[o0]] [] [(6,.string (strOf la.xs)),(7,.slice lb.a lb.xs.length lb.cap)] rfl Ac ?_
 refine N7 0 lb.xs lb.a lb.xs.length lb.cap (A8 w) (some 8) hrb (fun w' hw=>Bf (fun b k v _ hv=>Bg hv w' hw) (fun _ h=>h) hb) ?_
 refine DX [6,8] [(6,.string (strOf la.xs)),(8,.string (strOf lb.xs))] ?_
 by_cases h1:(strOf la.xs).toList=(strOf lb.xs).toList
 ·refine AC 3 0 [] [[(ov (.bool true)),o0]] [Value.bool (((strOf la.xs).toList==(strOf lb.xs).toList))=Value.bool true] [(4,.bool true)] rfl ⟨congrArg (fun t=>Value.bool (t)) (beq_iff_eq.2 h1),Ac⟩ ?_
  refine AU [] [] (.bool true) Ac ?_
  intro w2 hw2
  exact⟨congrArg (fun b=>Ending.returned (Value.bool b)) (Eq.symm (decide_eq_true (YT hra hrb h1))),A7 hw2⟩
 refine AC 3 0 [] [[(ov (.bool false)),o0]] [Value.bool (((strOf la.xs).toList==(strOf lb.xs).toList))=Value.bool false] [(4,.bool false)] rfl ⟨congrArg (fun t=>Value.bool (t)) (beq_eq_false_iff_ne.2 h1),Ac⟩ ?_
 refine AU [] [] (.bool false) Ac ?_
 intro w3 hw3
 exact⟨congrArg (fun b=>Ending.returned (Value.bool b)) (Eq.symm (decide_eq_false (fun e=>h1 (by rw[e])))),A7 hw3⟩
theorem YY(w:World)(la lb:Sl Int)(ha:BD Bh 1 Any w la)(hb:BD Bh 1 Any w lb)(hra:Ef la.xs)(hrb:Ef lb.xs)(h:la.xs=lb.xs):Calls Try.prog 11 #[.slice la.a la.xs.length la.cap,.slice lb.a lb.xs.length lb.cap] w fun e w'=>e = .returned (.bool true)∧AV (fun _=>False) w w':=by
 have:=sameb_calls w la lb ha hb hra hrb
 rw[decide_eq_true h]at this
 exact this
end Go.Proofs.Ytjmcjekhgpakoaa.Cf
