/- Packed: Hc, Hd, He, Hg, Hr, Ba, Bb, Lm. No conditions. -/
import Derived.Test.YtlccogilgegnfaaDoorPb4
import Derived.OpenShut
set_option maxHeartbeats 4000000
namespace Go.Proofs.YtlccogilgegnfaaDoor.Hx
open Go Go.Proofs.YtlccogilgegnfaaDoor.Eng Go.Proofs.YtlccogilgegnfaaDoor.Mem Go.Proofs.YtlccogilgegnfaaDoor.Ly Go.Proofs.YtlccogilgegnfaaDoor.Ad
set_option linter.unusedSimpArgs false
set_option linter.unusedVariables false
set_option maxRecDepth 100000
structure HV where
 n:Nat
 dp:Nat
 fr:Int
 nP:Nat
 WS:List Iw
 gV:Nat
 cV:Nat
 B:List Nat
 QS:List Aq
 n2:Nat
 mq:Nat
 gW:Nat
 nW:Nat
 cW:Nat
 p:Nat
 sv:Nat
 st:Nat
 q:Aq
 lk:Int
 rt:Int
 ta:Option Addr
 tn:Nat
 tc:Nat
 fa:Nat
 fb:Nat
 ca:Array Value
 cb:Nat
def KU(V:HV)(W:List Int):List Ch:=[.blk V.dp (.cells #[.int .i64 V.fr,.slice (some ⟨V.gV,0,none⟩) V.nP V.cV] 113 (0,0)) true,BV V.n 81 10 Iw.cells (.slice (some ⟨V.gV,0,none⟩) V.nP V.cV) V.WS,Cm V.B V.WS V.QS,.blk V.mq (.cells #[.slice (some ⟨V.gW,0,none⟩) V.nW V.cW] 106 (0,0)) true,BV V.n2 38 1 (fun x:Int=>[Value.int .u32 x]) (.slice (some ⟨V.gW,0,none⟩) V.nW V.cW) W]
structure Ko(V:HV)(W:List Int):Prop where
 lp:V.p<V.WS.length
 ls:V.WS.length=V.nP
 y:gd V.WS V.p=⟨V.lk,V.sv,V.st,V.rt,.slice V.ta V.tn V.tc,V.q.Entry,V.q.A7,V.q.AV,V.fa,V.fb,V.ca⟩
 gq:gd V.QS V.p=V.q
 cf:X7 V.fa V.fb V.ca V.q V.cb
 rg:PRng V.q
 wl:W.length=V.nW
 wn:V.nW≤16384
 fr:((V.nW / 16:Nat):Int)=V.fr
 ss:V.sv+17=V.st
 sn:V.st+5≤V.nW
 cw:V.nW≤V.cW
 wI:∀ k,k<V.nW→0≤gd W k∧gd W k<4294967296
theorem IB{V:HV}{W:List Int}:∀ c∈KU V W,c.rw=true:=fun c hc=>by
 simp only[KU,List.mem_cons,List.not_mem_nil,or_false]at hc
 rcases hc with rfl | rfl | rfl | rfl | rfl <;> rfl
theorem WH{V:HV}{W W':List Int}:JY (KU V W')=JY (KU V W):=by
 funext b
 simp only[JY,KU,List.mem_cons,List.not_mem_nil,or_false,exists_eq_or_imp,exists_eq_left]
 rfl
structure S5(W:List Int)(a:Nat)(s r t pc o:Int):Prop where
 s:gd W a=s
 r:gd W (a+1)=r
 t:gd W (a+2)=t
 pc:gd W (a+3)=pc
 o:gd W (a+4)=o
structure Rg(q:Aq)(s r t pc o:Int):Prop where
 hs:0≤s∧s≤3
 hr:0≤r∧r≤q.A7
 ht:0≤t∧t≤6
 tp:t=0→pc=0
 hpc:0≤pc∧pc<4294967296
 ho:0≤o∧o≤q.AV
 ag:s=2→IQ q r=true
theorem nmin_r{a b:Nat}(h:b≤a):Nat.min a b=b:=Nat.min_eq_right h
theorem XO{a b:Nat}(h:a≤b):Nat.min a b=a:=Nat.min_eq_left h
theorem Xj{n g nW cW st:Nat}{W:List Int}{w':World}(h:(BV n 38 1 (fun x:Int=>[Value.int .u32 x]) (.slice (some ⟨g,0,none⟩) nW cW) W).holds w')(hwl:W.length=nW)(hst:st<nW)(hn:nW≤16384):PW (fun x:Int=>[Value.int .u32 x]) 1 Any w' ⟨some ⟨g,0+Ee 1 st,none⟩,cW - st,(W.drop st).take (nW - st)⟩:=by
 subst hwl
 exact sl_sub (QA (cells:=(fun x:Int=>[Value.int .u32 x])) (sz:=1) (base:=n) (e:=38) (fun _=>rfl) h (by omega) (fun _ _=>trivial)) (by omega) (fun e=>by subst e;simp at hst)
theorem takeN{W:List Int}{nW a n:Nat}(hwl:W.length=nW)(ha:a+n≤nW):Ie (List.replicate n (0:Int)) 0 (((W.drop a).take (nW - a)).take n)=(List.range n).map fun k=>gd W (a+k):=by
 have hl:(((W.drop a).take (nW - a)).take n).length=n:=by rw[List.length_take,List.length_take,List.length_drop];omega
 unfold Ie
 have hd:(List.replicate n (0:Int)).drop n=[]:=by simp
 rw[List.take_zero,List.nil_append,hl,Nat.zero_add,hd,List.append_nil]
 apply List.ext_getElem
 ·rw[hl];simp
 intro i h1 h2
 rw[hl]at h1
 simp only[List.getElem_take,List.getElem_drop,List.getElem_map,List.getElem_range]
 rw[EW (by omega)]
theorem take5{W:List Int}{nW a:Nat}{s r t pc o:Int}(hwl:W.length=nW)(ha:a+5≤nW)(h:S5 W a s r t pc o):Ie (List.replicate 5 (0:Int)) 0 (((W.drop a).take (nW - a)).take 5)=[s,r,t,pc,o]:=by
 rw[takeN hwl ha]
 show[gd W (a+0),gd W (a+1),gd W (a+2),gd W (a+3),gd W (a+4)]=_
 rw[h.r,h.t,h.pc,h.o]
 show[gd W a,_,_,_,_]=_
 rw[h.s]
theorem Yz{A:AW}{w:World}(h:Sat A w){i:Nat}{V:HV}{W:List Int}(hi:A.σ[i]? = some (Cm V.B V.WS V.QS))(hH:Ko V W)(ha:V.q.Dx≠0):w.heap[V.cb]? = some (.cells V.q.arr 35 (0,0)):=by
 have h1:∀ j,j<V.WS.length→CareAt w (fun b=>b∈V.B) (gd V.WS j).fa (gd V.WS j).fb (gd V.WS j).ca (gd V.QS j):=h.at hi
 have h2:=h1 V.p hH.lp
 rw[hH.y,hH.gq]at h2
 obtain⟨b, -,hc,hb⟩:=h2
 rcases hc with⟨h0, -⟩ | ⟨-, -, -,h3⟩
 ·exact absurd h0 ha
 rcases hH.cf with⟨h0, -⟩ | ⟨-, -, -,h4⟩
 ·exact absurd h0 ha
 have h5:(#[Value.pointer (some ⟨b,0,none⟩)]:Array Value) = #[.pointer (some ⟨V.cb,0,none⟩)]:=h3.symm.trans h4
 simp only[Array.mk.injEq,List.cons.injEq,Value.pointer.injEq,Option.some.injEq,Addr.mk.injEq,and_true]at h5
 rw[←h5];exact hb
section
variable (z:Nat)(V:HV)(n11:Nat)(s r:Int)(t pc o:Int)(W:List Int)
abbrev Iy:=bk (z+1) #[i6 V.lk,Ac V.sv,Ac V.st,i6 V.rt,.slice V.ta V.tn V.tc,.int .u32 V.q.Entry,.int .u32 V.q.A7,.int .u32 V.q.AV,.func (.func V.fa) #[] V.ca,.func (.func V.fb) #[] V.ca] 81
abbrev IA:=bk (z+2) #[i6 V.lk,Ac V.sv,Ac V.st,i6 V.rt,.slice V.ta V.tn V.tc,.int .u32 V.q.Entry,.int .u32 V.q.A7,.int .u32 V.q.AV,.func (.func V.fa) #[] V.ca,.func (.func V.fb) #[] V.ca] 81
abbrev J8:=bk n11 #[i6 V.lk,Ac V.sv,Ac V.st,i6 V.rt,.slice V.ta V.tn V.tc,.int .u32 V.q.Entry,.int .u32 V.q.A7,.int .u32 V.q.AV,.func (.func V.fa) #[] V.ca,.func (.func V.fb) #[] V.ca] 81
abbrev OV:=bk z #[i6 V.lk,Ac V.sv,Ac V.st,i6 V.rt,.slice V.ta V.tn V.tc,.int .u32 V.q.Entry,.int .u32 V.q.A7,.int .u32 V.q.AV,.func (.func V.fa) #[] V.ca,.func (.func V.fb) #[] V.ca] 81
abbrev qebn_4:=bk (z+1) #[i6 0,i6 0,i6 0,i6 0,.slice none 0 0,.int .u32 0,.int .u32 0,.int .u32 0,.nilFunc,.nilFunc] 81
abbrev J7:=bk z #[i6 0,i6 0,i6 0,i6 0,.slice none 0 0,.int .u32 0,.int .u32 0,.int .u32 0,.nilFunc,.nilFunc] 81
abbrev GV:Ch:= .blk V.dp (.cells #[i6 V.fr,.slice (some ⟨V.gV,0,none⟩) V.nP V.cV] 113 (0,0)) true
abbrev GX:Ch:= .blk V.mq (.cells #[.slice (some ⟨V.gW,0,none⟩) V.nW V.cW] 106 (0,0)) true
abbrev Gx:=BV z 38 1 (fun x:Int=>[Value.int .u32 x]) (.slice (some ⟨z+3,0,none⟩) 5 5) ([s,r,t,pc,o]:List Int)
abbrev GI:=BV V.n2 38 1 (fun x:Int=>[Value.int .u32 x]) (.slice (some ⟨V.gW,0,none⟩) V.nW V.cW) W
abbrev EJ:=BV V.n 81 10 Iw.cells (.slice (some ⟨V.gV,0,none⟩) V.nP V.cV) V.WS
abbrev MO:D7:=(9,.slice (some ⟨z+3,0,none⟩) 5 5)
end
theorem SN(w w0:World)(V:HV)(W:List Int)(hO:Sat ⟨w0,w.heap.size,KU V W⟩ w)(S0:Nat→Prop)(hS0:S0=JY (KU V W))(hn1:V.n≤w.heap.size)(hn2:V.n2≤w.heap.size)(hH:Ko V W)(s r t pc o:Int)(h5:S5 W V.st s r t pc o)(hR:Rg V.q s r t pc o):Calls Tryd.prog 20 #[.pointer (some ⟨V.dp,0,none⟩),.pointer (some ⟨V.mq,0,none⟩),.int .i64 (V.p:Int),.bool false] w fun e w'=>∃ g cp,e = .returned (.tuple #[.agg (Iw.arr ⟨V.lk,V.sv,V.st,V.rt,.slice V.ta V.tn V.tc,V.q.Entry,V.q.A7,V.q.AV,V.fa,V.fb,V.ca⟩),.slice (some ⟨g,0,none⟩) 5 cp,.int .i64 0])∧w.heap.size≤g∧∃ w1:World,Sat ⟨w,w'.heap.size,KU V W++[BV w.heap.size 38 1 (fun x:Int=>[Value.int .u32 x]) (.slice (some ⟨g,0,none⟩) 5 cp) [s,r,t,pc,o]]⟩ w'∧Ce S0 w w':=by
 obtain⟨z,hz⟩:∃ z,z=w.heap.size:=⟨_,rfl⟩
 refine Bf (args:=[pt V.dp,pt V.mq,Ac V.p,.bool false]) 44 ⟨w,z,[(old S0 w),(GV V),(EJ V),(Cm V.B V.WS V.QS),(GX V),(GI V W)]⟩ Tryd.func20 rfl (by kernel_rfl) (by kernel_rfl) (hS0 ▸ hz ▸ O4 hO IB) ?_
 have hwl:=hH.wl;have hwn:=hH.wn;have hfr:=hH.fr;have hlp:=hH.lp;have hls:=hH.ls;have hcw:=hH.cw;have hsn:=hH.sn;have hss:=hH.ss;have hq1:=hH.rg.en;have hq2:=hH.rg.ac;have hq3:=hH.rg.re;have hq4:=hH.rg.ou;have hs1:=hR.hs;have hs2:=hR.hr;have hs3:=hR.ht;have hs4:=hR.tp;have hs5:=hR.hpc;have hs6:=hR.ho
 refine Di [0,1,2,3] [(0,pt V.dp),(1,pt V.mq),(2,Ac V.p),(3,.bool false)] ?_
 refine q_c 6 4 [] [[o0,o0,o0],[o0,o0,o0,o0]] [] [(1,pt V.mq),(8,pt z),(15,pt V.dp),(16,pt V.mq),(17,Ac V.p),(18,.bool false)] ⟨w,z+1,[(old S0 w),(GV V),(EJ V),(Cm V.B V.WS V.QS),(GX V),(GI V W),(J7 z)]⟩ rfl Ae ?_
 refine l_call [] [] 24 #[pt V.dp,pt V.mq,Ac V.p,.bool false] (some 19) Ae ?_
 intro w1 hw1
 refine Bf (args:=[pt V.dp,pt V.mq,Ac V.p,.bool false]) 50 ⟨w,z+1,[(old S0 w),(GV V),(EJ V),(Cm V.B V.WS V.QS),(GX V),(GI V W),(J7 z)]⟩ Tryd.func24 rfl (by kernel_rfl) (by kernel_rfl) hw1 ?_
 refine q_c 12 0 [0] [[o0,o0],[o0,o0,o0,o0,o0,o0,o0]] [] [(0,pt V.dp),(1,pt V.mq),(2,Ac V.p),(3,.bool false),(8,pt (z+1)),(10,.bool false)] ⟨w,z+2,[(old S0 w),(GV V),(EJ V),(Cm V.B V.WS V.QS),(GX V),(GI V W),(J7 z),(qebn_4 z)]⟩ rfl Ae ?_
 refine DZ 11 [0,1,2,3,4,5,6,7] [(old S0 w),(GV V),(EJ V),(Cm V.B V.WS V.QS),(GX V),(GI V W),(J7 z),(qebn_4 z)] rfl rfl ?_
 refine Ci [(0,o0),(2,o0),(3,o0),(4,o0),(5,(a1 1))] [0,2,3,8,19,24] [Qb V.dp] [true,false,true,true,true,true,false,false,false,false,false] [(0,pt V.dp),(2,Ac V.p),(3,.bool false),(8,pt (z+1)),(19,pt V.mq),(24,i6 V.fr)] ⟨rfl,Ae⟩ ?_
 refine Bq 1 ?_
 refine FU [] [] 37 #[pt V.mq] (some 20) (by as_aux_lemma=>kernel_rfl) rfl rfl Ae ?_
 intro w2 hw2
 refine Bf (args:=[pt V.mq]) 11 ⟨w,z+2,[(old S0 w),(GV V),(EJ V),(Cm V.B V.WS V.QS),(GX V),(GI V W),(J7 z),(qebn_4 z)]⟩ Tryd.func37 rfl (by kernel_rfl) (by kernel_rfl) hw2 ?_
 refine Au 17 0 [0] [[o0],[o0,o0],[o0,o0,o0,(a1 4),o0,(ov (i6 ((V.nW / 16:Nat):Int))),o0]] [Qb V.mq,Wr (Int.tdiv ((V.nW:Int)) 16) (((V.nW / 16:Nat):Int))] [(2,i6 ((V.nW / 16:Nat):Int))] rfl ⟨rfl,congrArg (Value.int .i64) (Me (by omega) (by omega) (by omega)),Ae⟩ ?_
 refine Az [] [] (i6 ((V.nW / 16:Nat):Int)) Ae ?_
 intro w3 hw3
 have hs4:=hw3
 refine⟨_,_,rfl,hs4,.inr (fun c hc=>hs4.all c (by first | exact hc | exact DW (is:=[0,1,2,3,4,5,6,7]) rfl c hc)), ?_⟩
 refine CY [0,2,3,8,24,20] [(0,pt V.dp),(2,Ac V.p),(3,.bool false),(8,pt (z+1)),(24,i6 V.fr),(20,i6 ((V.nW / 16:Nat):Int))] ?_
 refine Ci [(6,oF),(7,o0),(8,o0),(9,o0),(10,o0)] [0,2,8,18] [NF ((V.nW / 16:Nat):Int) V.fr] (Dw 11 0) [(0,pt V.dp),(2,Ac V.p),(8,pt (z+1)),(18,.bool false)] ⟨nf,Ae⟩ ?_
 refine CE ?_
 refine q_o 15 0 [0,0] [[o0,oF,o0,o0,o0,o0,o0,(a1 1),o0,oF,o0,o0],[o0,o0,o0,(a1 1),o0,(oi V.p),(oa [.via 2 (i6 V.lk),.via 2 (Ac V.sv),.via 2 (Ac V.st),.via 2 (i6 V.rt),.via 2 (.slice V.ta V.tn V.tc),.via 2 (.int .u32 V.q.Entry),.via 2 (.int .u32 V.q.A7),.via 2 (.int .u32 V.q.AV),.via 2 (.func (.func V.fa) #[] V.ca),.via 2 (.func (.func V.fb) #[] V.ca)]),(an 10 7),o0]] [BF ((V.p:Int)<0),Qb V.dp,BF ((V.p:Int)≥(V.nP:Int)),Qb V.dp,(V.p:Int)=(V.p:Int),V.p<V.nP,BM,∀ w',Ch.holds (EJ V) w'→w'.cell? ⟨V.gV,0+Ee 10 V.p,none⟩=some (i6 V.lk),∀ w',Ch.holds (EJ V) w'→w'.cell? ⟨V.gV,0+Ee 10 V.p+1,none⟩=some (Ac V.sv),∀ w',Ch.holds (EJ V) w'→w'.cell? ⟨V.gV,0+Ee 10 V.p+2,none⟩=some (Ac V.st),∀ w',Ch.holds (EJ V) w'→w'.cell? ⟨V.gV,0+Ee 10 V.p+3,none⟩=some (i6 V.rt),∀ w',Ch.holds (EJ V) w'→w'.cell? ⟨V.gV,0+Ee 10 V.p+4,none⟩=some (.slice V.ta V.tn V.tc),∀ w',Ch.holds (EJ V) w'→w'.cell? ⟨V.gV,0+Ee 10 V.p+5,none⟩=some (.int .u32 V.q.Entry),∀ w',Ch.holds (EJ V) w'→w'.cell? ⟨V.gV,0+Ee 10 V.p+6,none⟩=some (.int .u32 V.q.A7),∀ w',Ch.holds (EJ V) w'→w'.cell? ⟨V.gV,0+Ee 10 V.p+7,none⟩=some (.int .u32 V.q.AV),∀ w',Ch.holds (EJ V) w'→w'.cell? ⟨V.gV,0+Ee 10 V.p+8,none⟩=some (.func (.func V.fa) #[] V.ca),∀ w',Ch.holds (EJ V) w'→w'.cell? ⟨V.gV,0+Ee 10 V.p+9,none⟩=some (.func (.func V.fb) #[] V.ca),Qb (z+1),Qb (z+1),Qb (z+1),Qb (z+1),Qb (z+1),Qb (z+1),Qb (z+1),Qb (z+1),Qb (z+1),Qb (z+1)] [(8,pt (z+1)),(9,i6 0)] ⟨w,z+2,[(old S0 w),(GV V),(EJ V),(Cm V.B V.WS V.QS),(GX V),(GI V W),(J7 z),(Iy z V)]⟩ rfl ⟨bf,rfl,bf,rfl,rfl,(by omega),rfl,C9 (sz:=10) (j:=V.p) (k:=0) (fun _=>rfl) hH.lp (by rw[hH.y];rfl),C9 (sz:=10) (j:=V.p) (k:=1) (fun _=>rfl) hH.lp (by rw[hH.y];rfl),C9 (sz:=10) (j:=V.p) (k:=2) (fun _=>rfl) hH.lp (by rw[hH.y];rfl),C9 (sz:=10) (j:=V.p) (k:=3) (fun _=>rfl) hH.lp (by rw[hH.y];rfl),C9 (sz:=10) (j:=V.p) (k:=4) (fun _=>rfl) hH.lp (by rw[hH.y];rfl),C9 (sz:=10) (j:=V.p) (k:=5) (fun _=>rfl) hH.lp (by rw[hH.y];rfl),C9 (sz:=10) (j:=V.p) (k:=6) (fun _=>rfl) hH.lp (by rw[hH.y];rfl),C9 (sz:=10) (j:=V.p) (k:=7) (fun _=>rfl) hH.lp (by rw[hH.y];rfl),C9 (sz:=10) (j:=V.p) (k:=8) (fun _=>rfl) hH.lp (by rw[hH.y];rfl),C9 (sz:=10) (j:=V.p) (k:=9) (fun _=>rfl) hH.lp (by rw[hH.y];rfl),rfl,rfl,rfl,rfl,rfl,rfl,rfl,rfl,rfl,rfl,Ae⟩ ?_
 refine Az [.at 7,.at 7,.at 7,.at 7,.at 7,.at 7,.at 7,.at 7,.at 7,.at 7] [Qb (z+1),Qb (z+1),Qb (z+1),Qb (z+1),Qb (z+1),Qb (z+1),Qb (z+1),Qb (z+1),Qb (z+1),Qb (z+1)] (.tuple #[.agg #[i6 V.lk,Ac V.sv,Ac V.st,i6 V.rt,.slice V.ta V.tn V.tc,.int .u32 V.q.Entry,.int .u32 V.q.A7,.int .u32 V.q.AV,.func (.func V.fa) #[] V.ca,.func (.func V.fb) #[] V.ca],i6 0]) ⟨rfl,rfl,rfl,rfl,rfl,rfl,rfl,rfl,rfl,rfl,Ae⟩ ?_
 intro w5 hw5
 refine⟨_,_,rfl,hw5, ?_⟩
 refine EI 12 4 [0] [[o0,o0,o0,o0,(an 10 8),o0],[o0,o0],[o0,o0,o0,(a1 8)]] [Qb (z+2),Qb (z+2),Qb (z+2),Qb (z+2),Qb (z+2),Qb (z+2),Qb (z+2),Qb (z+2),Qb (z+2),Qb (z+2),Qb (z+2)] [(8,pt z),(11,pt (z+2)),(27,pt V.mq),(30,Ac V.st)] ⟨w,z+3,[(old S0 w),(GV V),(EJ V),(Cm V.B V.WS V.QS),(GX V),(GI V W),(J7 z),(Iy z V),(IA z V)]⟩ rfl ⟨rfl,rfl,rfl,rfl,rfl,rfl,rfl,rfl,rfl,rfl,rfl,Ae⟩ ?_
 refine l_call [] [] 23 #[pt V.mq,Ac V.st,i6 5] (some 31) Ae ?_
 intro w6 hw6
 refine Bf (args:=[pt V.mq,Ac V.st,i6 5]) 28 ⟨w,z+3,[(old S0 w),(GV V),(EJ V),(Cm V.B V.WS V.QS),(GX V),(GI V W),(J7 z),(Iy z V),(IA z V)]⟩ Tryd.func23 rfl (by kernel_rfl) (by kernel_rfl) hw6 ?_
 refine Au 7 3 [] [[o0,o0],[o0,o0,o0]] [] [(0,pt V.mq),(1,Ac V.st),(2,i6 5),(10,pt V.mq),(11,Ac V.st),(12,i6 5)] rfl Ae ?_
 refine l_call [] [] 36 #[pt V.mq,Ac V.st,i6 5] (some 13) Ae ?_
 intro w7 hw7
 refine Bf (args:=[pt V.mq,Ac V.st,i6 5]) 35 ⟨w,z+3,[(old S0 w),(GV V),(EJ V),(Cm V.B V.WS V.QS),(GX V),(GI V W),(J7 z),(Iy z V),(IA z V)]⟩ Tryd.func36 rfl (by kernel_rfl) (by kernel_rfl) hw7 ?_
 refine Au 25 0 [0,0] [[o0],[o0,o0],[o0,oF,o0,o0,o0,o0,o0,o0,o0,o0,o0,(a1 4),o0,oF,o0,o0,o0,o0,o0,o0,(a1 4),o0,o0,(ov (i6 ((V.nW:Int) - (V.st:Int)))),oF,o0],[o0]] [BF ((V.st:Int)<0),Qb V.mq,BF ((V.st:Int) > (V.nW:Int)),Qb V.mq,Wr ((V.nW:Int) - (V.st:Int)) ((V.nW:Int) - (V.st:Int)),BF ((5:Int) > ((V.nW:Int) - (V.st:Int)))] [(6,i6 0)] rfl ⟨bf,rfl,bf,rfl,BP,bf,Ae⟩ ?_
 refine Az [] [] (i6 0) Ae ?_
 intro w8 hw8
 refine⟨_,_,rfl,hw8, ?_⟩
 refine AZ 11 1 [0] [[o0],[o0,o0],[o0]] [] [(0,pt V.mq),(1,Ac V.st),(17,i6 5)] rfl Ae ?_
 refine Z9 z 5 0 (fun x:Int=>[Value.int .u32 x]) 38 1 4 (.int .u32 0) (5:Int) (5:Int) (some 18) rfl rfl (by omega) (show z≤z+3 by omega) (fun n9 (hn10:z+3+1≤n9) => ?_)
 refine AZ 4 7 [] [[o0],[o0,o0,o0,o0,(a1 4),o0,⟨.slc V.st V.nW true,none⟩]] [Qb V.mq,(V.st:Int)=(V.st:Int),(V.nW:Int)=(V.nW:Int),V.st≤V.nW,V.nW≤V.cW,V.cW≠V.st,BM] [(MO z),(19,.slice (some ⟨z+3,0,none⟩) 5 5),(25,.slice (some ⟨V.gW,0+Ee 1 V.st,none⟩) (V.nW - V.st) (V.cW - V.st))] rfl ⟨rfl,rfl,rfl,(by omega),(by omega),(by omega),rfl,Ae⟩ ?_
 refine QB z 9 0 5 5 (List.replicate 5 0) ((W.drop V.st).take (V.nW - V.st)) (some ⟨V.gW,0+Ee 1 V.st,none⟩) (fun x:Int=>[Value.int .u32 x]) 38 (z+3) 0 5 5 5 5 (V.nW - V.st) (V.cW - V.st) (GI V W) (some 26) rfl (nmin_r (by omega)) (by omega) (by exact of_decide_eq_true rfl) (by rw[List.length_take,List.length_drop,show W.length=V.nW from hH.wl];omega) (fun w' hw=>Xj hw hH.wl (by omega) (by omega)) (fun n11 (hn12:n9≤n11) => ?_)
 rw[take5 hH.wl (by omega) h5]
 refine AZ 7 0 [] [[],[o0,o0,o0]] [] [(6,.slice (some ⟨z+3,0,none⟩) 5 5),(7,i6 0)] rfl Ae ?_
 refine Az [] [] (.tuple #[.slice (some ⟨z+3,0,none⟩) 5 5,i6 0]) Ae ?_
 intro w13 hw13
 refine⟨_,_,rfl,hw13, ?_⟩
 refine AZ 13 2 [0] [[o0,o0,o0,o0,o0],[o0,o0],[(an 10 8),o0]] [Qb (z+2),Qb (z+2),Qb (z+2),Qb (z+2),Qb (z+2),Qb (z+2),Qb (z+2),Qb (z+2),Qb (z+2),Qb (z+2)] [(8,pt z),(11,pt (z+2)),(13,.slice (some ⟨z+3,0,none⟩) 5 5),(37,.agg #[i6 V.lk,Ac V.sv,Ac V.st,i6 V.rt,.slice V.ta V.tn V.tc,.int .u32 V.q.Entry,.int .u32 V.q.A7,.int .u32 V.q.AV,.func (.func V.fa) #[] V.ca,.func (.func V.fb) #[] V.ca]),(38,.slice (some ⟨z+3,0,none⟩) 5 5)] rfl ⟨rfl,rfl,rfl,rfl,rfl,rfl,rfl,rfl,rfl,rfl,Ae⟩ ?_
 refine l_call [] [] 35 #[.agg #[i6 V.lk,Ac V.sv,Ac V.st,i6 V.rt,.slice V.ta V.tn V.tc,.int .u32 V.q.Entry,.int .u32 V.q.A7,.int .u32 V.q.AV,.func (.func V.fa) #[] V.ca,.func (.func V.fb) #[] V.ca],.slice (some ⟨z+3,0,none⟩) 5 5] (some 39) Ae ?_
 intro w14 hw14
 refine Bf (args:=[.agg #[i6 V.lk,Ac V.sv,Ac V.st,i6 V.rt,.slice V.ta V.tn V.tc,.int .u32 V.q.Entry,.int .u32 V.q.A7,.int .u32 V.q.AV,.func (.func V.fa) #[] V.ca,.func (.func V.fb) #[] V.ca],.slice (some ⟨z+3,0,none⟩) 5 5]) 56 ⟨w,n11,[(old S0 w),(GV V),(EJ V),(Cm V.B V.WS V.QS),(GX V),(GI V W),(J7 z),(Iy z V),(IA z V),(Gx z s r t pc o)]⟩ Tryd.func35 rfl (by kernel_rfl) (by kernel_rfl) hw14 ?_
 refine q_c 7 0 [] [[o0,o0]] [] [(1,.slice (some ⟨z+3,0,none⟩) 5 5),(2,pt n11)] ⟨w,n11+1,[(old S0 w),(GV V),(EJ V),(Cm V.B V.WS V.QS),(GX V),(GI V W),(J7 z),(Iy z V),(IA z V),(Gx z s r t pc o),(J8 V n11)]⟩ rfl Ae ?_
 refine DZ 21 [0,1,2,3,4,5,6,7,8,9,10] [(old S0 w),(GV V),(EJ V),(Cm V.B V.WS V.QS),(GX V),(GI V W),(J7 z),(Iy z V),(IA z V),(Gx z s r t pc o),(J8 V n11)] rfl rfl ?_
 refine Ci [(0,o0),(1,(oi 0)),(2,(oa [.via 9 (.int .u32 s)])),(3,oF),(4,o0),(5,o0),(6,(oi 1)),(7,(oa [.via 9 (.int .u32 r)])),(8,o0),(9,(a1 10)),(10,oF),(11,o0),(12,o0),(13,o0),(14,(oi 4)),(15,(oa [.via 9 (.int .u32 o)])),(16,o0),(17,(a1 10)),(18,oF),(19,o0),(20,o0)] [1,2,5] [(0:Int)=((0:Nat):Int),0<5,BM,∀ w',Ch.holds (Gx z s r t pc o) w'→w'.cell? ⟨z+3,0,none⟩=some (.int .u32 s),BF ((s:Int) > 3),(1:Int)=((1:Nat):Int),1<5,BM,∀ w',Ch.holds (Gx z s r t pc o) w'→w'.cell? ⟨z+3,1,none⟩=some (.int .u32 r),Qb n11,BF ((r:Int) > V.q.A7),(4:Int)=((4:Nat):Int),4<5,BM,∀ w',Ch.holds (Gx z s r t pc o) w'→w'.cell? ⟨z+3,4,none⟩=some (.int .u32 o),Qb n11,BF ((o:Int) > V.q.AV)] (Dw 21 0) [(1,.slice (some ⟨z+3,0,none⟩) 5 5),(2,pt n11),(5,.bool false)] ⟨rfl,(by omega),rfl,C9 (sz:=1) (j:=0) (k:=0) (fun _=>rfl) (by exact of_decide_eq_true rfl) rfl,bf,rfl,(by omega),rfl,C9 (sz:=1) (j:=1) (k:=0) (fun _=>rfl) (by exact of_decide_eq_true rfl) rfl,rfl,bf,rfl,(by omega),rfl,C9 (sz:=1) (j:=4) (k:=0) (fun _=>rfl) (by exact of_decide_eq_true rfl) rfl,rfl,bf,Ae⟩ ?_
 refine CE ?_
 refine BI [1,2,5] [(1,.slice (some ⟨z+3,0,none⟩) 5 5),(2,pt n11),(5,.bool false)] ?_
 refine Gy <| Y1 <| CW ?_
 by_cases h15:(t:Int)=0
 ·refine Au 8 0 [0] [[o0,(oi 2),(oa [.via 9 (.int .u32 t)]),oF,o0,o0,(oi 2),(oa [.via 9 (.int .u32 t)]),oT,o0,o0,(oi 3),(oa [.via 9 (.int .u32 pc)]),oF,o0,o0,o0]] [(2:Int)=((2:Nat):Int),2<5,BM,∀ w',Ch.holds (Gx z s r t pc o) w'→w'.cell? ⟨z+3,2,none⟩=some (.int .u32 t),BF ((t:Int) > 6),(2:Int)=((2:Nat):Int),2<5,BM,∀ w',Ch.holds (Gx z s r t pc o) w'→w'.cell? ⟨z+3,2,none⟩=some (.int .u32 t),ET t 0,(3:Int)=((3:Nat):Int),3<5,BM,∀ w',Ch.holds (Gx z s r t pc o) w'→w'.cell? ⟨z+3,3,none⟩=some (.int .u32 pc),NF pc 0] [(1,.slice (some ⟨z+3,0,none⟩) 5 5),(2,pt n11),(26,.bool false)] rfl ⟨rfl,(by omega),rfl,C9 (sz:=1) (j:=2) (k:=0) (fun _=>rfl) (by exact of_decide_eq_true rfl) rfl,bf,rfl,(by omega),rfl,C9 (sz:=1) (j:=2) (k:=0) (fun _=>rfl) (by exact of_decide_eq_true rfl) rfl,et,rfl,(by omega),rfl,C9 (sz:=1) (j:=3) (k:=0) (fun _=>rfl) (by exact of_decide_eq_true rfl) rfl,nf,Ae⟩ ?_
  by_cases h16:(s:Int)=2
  ·have hag:=hR.ag h16
   refine DZ 14 [0,1,2,3,4,5,6,7,8,9,10] [(old S0 w),(GV V),(EJ V),(Cm V.B V.WS V.QS),(GX V),(GI V W),(J7 z),(Iy z V),(IA z V),(Gx z s r t pc o),(J8 V n11)] rfl rfl ?_
   refine Ci [(0,o0),(1,(oi 0)),(2,(oa [.via 9 (.int .u32 s)])),(3,oF),(4,o0),(5,o0),(6,o0),(7,(a1 10)),(8,o0),(9,(oi 1)),(10,(oa [.via 9 (.int .u32 r)]))] [47,50,53] [(0:Int)=((0:Nat):Int),0<5,BM,∀ w',Ch.holds (Gx z s r t pc o) w'→w'.cell? ⟨z+3,0,none⟩=some (.int .u32 s),NF s 2,Qb n11,(1:Int)=((1:Nat):Int),1<5,BM,∀ w',Ch.holds (Gx z s r t pc o) w'→w'.cell? ⟨z+3,1,none⟩=some (.int .u32 r)] (Dw 11 3) [(47,.bool false),(50,.func (.func V.fa) #[] V.ca),(53,.int .u32 r)] ⟨rfl,(by omega),rfl,C9 (sz:=1) (j:=0) (k:=0) (fun _=>rfl) (by exact of_decide_eq_true rfl) rfl,nf,rfl,rfl,(by omega),rfl,C9 (sz:=1) (j:=1) (k:=0) (fun _=>rfl) (by exact of_decide_eq_true rfl) rfl,Ae⟩ ?_
   rcases hH.cf with⟨hca0,hca1,hca2,hca3⟩ | ⟨hca0,hca1,hca2,hca3⟩
   ·refine Xc [(47,.bool false),(50,.func (.func 50) #[] #[]),(53,.int .u32 r)] (by(try dsimp only[Iy,IA,J8,J7,GV,GX,Gx,GI,EJ]);simp only[hca1,hca2,hca3]) ?_
    refine Bq 11 ?_
    refine FU [] [] 50 #[.int .u32 r] (some 54) (by as_aux_lemma=>kernel_rfl) rfl rfl Ae ?_
    intro w17 hw17
    refine(ZaJ w17 _ r hca0).mono ?_
    rintro e w18 ⟨rfl,hkw18⟩
    have hnw18:n11+1≤w18.heap.size:=Ef hw17 hkw18
    have hs19:=hw17.keeps hkw18
    refine⟨_,_,rfl,hs19,.inr (fun c hc=>hs19.all c (by first | exact hc | exact DW (is:=[0,1,2,3,4,5,6,7,8,9,10]) rfl c hc)), ?_⟩
    refine CY [47,54] [(47,.bool false),(54,.bool (IQ V.q r))] ?_
    refine Ci [(12,o0),(13,o0)] [4] [] (Dw 14 0) [(4,.bool (IQ V.q r))] Ae ?_
    refine CE ?_
    refine BI [4] [(4,.bool (IQ V.q r))] ?_
    refine Gy <| Iu <| Az [] [] (.bool (IQ V.q r)) Ae ?_
    intro w20 hw20
    refine⟨_,_,rfl,hw20, ?_⟩
    refine EI 10 0 [0] [[(ov (.bool false))],[(an 10 8),o0,(an 10 6),o0,o0]] [Value.bool (!(IQ V.q r))=Value.bool false,Qb (z+2),Qb (z+2),Qb (z+2),Qb (z+2),Qb (z+2),Qb (z+2),Qb (z+2),Qb (z+2),Qb (z+2),Qb (z+2),Qb z,Qb z,Qb z,Qb z,Qb z,Qb z,Qb z,Qb z,Qb z,Qb z] [(8,pt z),(MO z),(10,i6 0)] ⟨w,w18.heap.size,[(old S0 w),(GV V),(EJ V),(Cm V.B V.WS V.QS),(GX V),(GI V W),(OV z V),(Iy z V),(IA z V),(Gx z s r t pc o),(J8 V n11)]⟩ rfl ⟨by simp[hag],rfl,rfl,rfl,rfl,rfl,rfl,rfl,rfl,rfl,rfl,rfl,rfl,rfl,rfl,rfl,rfl,rfl,rfl,rfl,rfl,Ae⟩ ?_
    refine Az [.at 6,.at 6,.at 6,.at 6,.at 6,.at 6,.at 6,.at 6,.at 6,.at 6] [Qb z,Qb z,Qb z,Qb z,Qb z,Qb z,Qb z,Qb z,Qb z,Qb z] (.tuple #[.agg #[i6 V.lk,Ac V.sv,Ac V.st,i6 V.rt,.slice V.ta V.tn V.tc,.int .u32 V.q.Entry,.int .u32 V.q.A7,.int .u32 V.q.AV,.func (.func V.fa) #[] V.ca,.func (.func V.fb) #[] V.ca],.slice (some ⟨z+3,0,none⟩) 5 5,i6 0]) ⟨rfl,rfl,rfl,rfl,rfl,rfl,rfl,rfl,rfl,rfl,Ae⟩ ?_
    intro w21 hw21
    have h4:=hw21.pick [1,2,3,4,5,9] rfl rfl
    (try dsimp only[Iy,IA,J8,OV,GV,GX,Gx,GI,EJ,MO]at h4)
    rw[←hz]
    exact⟨_,_,rfl,(show z≤z+3 by omega),w,by rw[hw21.size];exact h4,Sat.back hw21 rfl (show w.heap.size≤w18.heap.size by omega) (List.mem_cons_self ..)⟩
   refine Xc [(47,.bool false),(50,.func (.func 52) #[] #[pt V.cb]),(53,.int .u32 r)] (by(try dsimp only[Iy,IA,J8,J7,GV,GX,Gx,GI,EJ]);simp only[hca1,hca2,hca3]) ?_
   refine Bq 11 ?_
   refine FU [] [] 52 #[.int .u32 r,pt V.cb] (some 54) (by as_aux_lemma=>kernel_rfl) rfl rfl Ae ?_
   intro w22 hw22
   refine(Zag w22 _ _ r (Yz hw22 (i:=3) rfl hH hca0) hca0 (by omega) (by omega)).mono ?_
   rintro e w23 ⟨rfl,hkw23⟩
   have hnw23:n11+1≤w23.heap.size:=Ef hw22 hkw23
   have hs24:=hw22.keeps hkw23
   refine⟨_,_,rfl,hs24,.inr (fun c hc=>hs24.all c (by first | exact hc | exact DW (is:=[0,1,2,3,4,5,6,7,8,9,10]) rfl c hc)), ?_⟩
   refine CY [47,54] [(47,.bool false),(54,.bool (IQ V.q r))] ?_
   refine Ci [(12,o0),(13,o0)] [4] [] (Dw 14 0) [(4,.bool (IQ V.q r))] Ae ?_
   refine CE ?_
   refine BI [4] [(4,.bool (IQ V.q r))] ?_
   refine Gy <| Iu <| Az [] [] (.bool (IQ V.q r)) Ae ?_
   intro w25 hw25
   refine⟨_,_,rfl,hw25, ?_⟩
   refine EI 10 0 [0] [[(ov (.bool false))],[(an 10 8),o0,(an 10 6),o0,o0]] [Value.bool (!(IQ V.q r))=Value.bool false,Qb (z+2),Qb (z+2),Qb (z+2),Qb (z+2),Qb (z+2),Qb (z+2),Qb (z+2),Qb (z+2),Qb (z+2),Qb (z+2),Qb z,Qb z,Qb z,Qb z,Qb z,Qb z,Qb z,Qb z,Qb z,Qb z] [(8,pt z),(MO z),(10,i6 0)] ⟨w,w23.heap.size,[(old S0 w),(GV V),(EJ V),(Cm V.B V.WS V.QS),(GX V),(GI V W),(OV z V),(Iy z V),(IA z V),(Gx z s r t pc o),(J8 V n11)]⟩ rfl ⟨by simp[hag],rfl,rfl,rfl,rfl,rfl,rfl,rfl,rfl,rfl,rfl,rfl,rfl,rfl,rfl,rfl,rfl,rfl,rfl,rfl,rfl,Ae⟩ ?_
   refine Az [.at 6,.at 6,.at 6,.at 6,.at 6,.at 6,.at 6,.at 6,.at 6,.at 6] [Qb z,Qb z,Qb z,Qb z,Qb z,Qb z,Qb z,Qb z,Qb z,Qb z] (.tuple #[.agg #[i6 V.lk,Ac V.sv,Ac V.st,i6 V.rt,.slice V.ta V.tn V.tc,.int .u32 V.q.Entry,.int .u32 V.q.A7,.int .u32 V.q.AV,.func (.func V.fa) #[] V.ca,.func (.func V.fb) #[] V.ca],.slice (some ⟨z+3,0,none⟩) 5 5,i6 0]) ⟨rfl,rfl,rfl,rfl,rfl,rfl,rfl,rfl,rfl,rfl,Ae⟩ ?_
   intro w26 hw26
   have h4:=hw26.pick [1,2,3,4,5,9] rfl rfl
   (try dsimp only[Iy,IA,J8,OV,GV,GX,Gx,GI,EJ,MO]at h4)
   rw[←hz]
   exact⟨_,_,rfl,(show z≤z+3 by omega),w,by rw[hw26.size];exact h4,Sat.back hw26 rfl (show w.heap.size≤w23.heap.size by omega) (List.mem_cons_self ..)⟩
  refine DZ 14 [0,1,2,3,4,5,6,7,8,9,10] [(old S0 w),(GV V),(EJ V),(Cm V.B V.WS V.QS),(GX V),(GI V W),(J7 z),(Iy z V),(IA z V),(Gx z s r t pc o),(J8 V n11)] rfl rfl ?_
  refine Ci [(0,o0),(1,(oi 0)),(2,(oa [.via 9 (.int .u32 s)])),(3,oT),(4,o0),(5,o0),(6,o0),(7,o0),(8,o0),(9,o0),(10,o0),(11,o0),(12,o0),(13,o0)] [4] [(0:Int)=((0:Nat):Int),0<5,BM,∀ w',Ch.holds (Gx z s r t pc o) w'→w'.cell? ⟨z+3,0,none⟩=some (.int .u32 s),NT s 2] (Dw 14 0) [(4,.bool true)] ⟨rfl,(by omega),rfl,C9 (sz:=1) (j:=0) (k:=0) (fun _=>rfl) (by exact of_decide_eq_true rfl) rfl,nt,Ae⟩ ?_
  refine CE ?_
  refine BI [4] [(4,.bool true)] ?_
  refine Gy <| Iu <| Az [] [] (.bool true) Ae ?_
  intro w27 hw27
  refine⟨_,_,rfl,hw27, ?_⟩
  refine EI 10 0 [0] [[o0],[(an 10 8),o0,(an 10 6),o0,o0]] [Qb (z+2),Qb (z+2),Qb (z+2),Qb (z+2),Qb (z+2),Qb (z+2),Qb (z+2),Qb (z+2),Qb (z+2),Qb (z+2),Qb z,Qb z,Qb z,Qb z,Qb z,Qb z,Qb z,Qb z,Qb z,Qb z] [(8,pt z),(MO z),(10,i6 0)] ⟨w,n11+1,[(old S0 w),(GV V),(EJ V),(Cm V.B V.WS V.QS),(GX V),(GI V W),(OV z V),(Iy z V),(IA z V),(Gx z s r t pc o),(J8 V n11)]⟩ rfl ⟨rfl,rfl,rfl,rfl,rfl,rfl,rfl,rfl,rfl,rfl,rfl,rfl,rfl,rfl,rfl,rfl,rfl,rfl,rfl,rfl,Ae⟩ ?_
  refine Az [.at 6,.at 6,.at 6,.at 6,.at 6,.at 6,.at 6,.at 6,.at 6,.at 6] [Qb z,Qb z,Qb z,Qb z,Qb z,Qb z,Qb z,Qb z,Qb z,Qb z] (.tuple #[.agg #[i6 V.lk,Ac V.sv,Ac V.st,i6 V.rt,.slice V.ta V.tn V.tc,.int .u32 V.q.Entry,.int .u32 V.q.A7,.int .u32 V.q.AV,.func (.func V.fa) #[] V.ca,.func (.func V.fb) #[] V.ca],.slice (some ⟨z+3,0,none⟩) 5 5,i6 0]) ⟨rfl,rfl,rfl,rfl,rfl,rfl,rfl,rfl,rfl,rfl,Ae⟩ ?_
  intro w28 hw28
  have h4:=hw28.pick [1,2,3,4,5,9] rfl rfl
  (try dsimp only[Iy,IA,J8,OV,J7,GV,GX,Gx,GI,EJ,MO]at h4)
  rw[←hz]
  exact⟨_,_,rfl,(show z≤z+3 by omega),w,by rw[hw28.size];exact h4,Sat.back hw28 rfl (show w.heap.size≤n11+1 by omega) (List.mem_cons_self ..)⟩
 refine Au 8 0 [0] [[o0,(oi 2),(oa [.via 9 (.int .u32 t)]),oF,o0,o0,(oi 2),(oa [.via 9 (.int .u32 t)]),oF,o0,o0,o0,o0]] [(2:Int)=((2:Nat):Int),2<5,BM,∀ w',Ch.holds (Gx z s r t pc o) w'→w'.cell? ⟨z+3,2,none⟩=some (.int .u32 t),BF ((t:Int) > 6),(2:Int)=((2:Nat):Int),2<5,BM,∀ w',Ch.holds (Gx z s r t pc o) w'→w'.cell? ⟨z+3,2,none⟩=some (.int .u32 t),EF t 0] [(1,.slice (some ⟨z+3,0,none⟩) 5 5),(2,pt n11),(26,.bool false)] rfl ⟨rfl,(by omega),rfl,C9 (sz:=1) (j:=2) (k:=0) (fun _=>rfl) (by exact of_decide_eq_true rfl) rfl,bf,rfl,(by omega),rfl,C9 (sz:=1) (j:=2) (k:=0) (fun _=>rfl) (by exact of_decide_eq_true rfl) rfl,ef,Ae⟩ ?_
 by_cases h29:(s:Int)=2
 ·have hag:=hR.ag h29
  refine DZ 14 [0,1,2,3,4,5,6,7,8,9,10] [(old S0 w),(GV V),(EJ V),(Cm V.B V.WS V.QS),(GX V),(GI V W),(J7 z),(Iy z V),(IA z V),(Gx z s r t pc o),(J8 V n11)] rfl rfl ?_
  refine Ci [(0,o0),(1,(oi 0)),(2,(oa [.via 9 (.int .u32 s)])),(3,oF),(4,o0),(5,o0),(6,o0),(7,(a1 10)),(8,o0),(9,(oi 1)),(10,(oa [.via 9 (.int .u32 r)]))] [47,50,53] [(0:Int)=((0:Nat):Int),0<5,BM,∀ w',Ch.holds (Gx z s r t pc o) w'→w'.cell? ⟨z+3,0,none⟩=some (.int .u32 s),NF s 2,Qb n11,(1:Int)=((1:Nat):Int),1<5,BM,∀ w',Ch.holds (Gx z s r t pc o) w'→w'.cell? ⟨z+3,1,none⟩=some (.int .u32 r)] (Dw 11 3) [(47,.bool false),(50,.func (.func V.fa) #[] V.ca),(53,.int .u32 r)] ⟨rfl,(by omega),rfl,C9 (sz:=1) (j:=0) (k:=0) (fun _=>rfl) (by exact of_decide_eq_true rfl) rfl,nf,rfl,rfl,(by omega),rfl,C9 (sz:=1) (j:=1) (k:=0) (fun _=>rfl) (by exact of_decide_eq_true rfl) rfl,Ae⟩ ?_
  rcases hH.cf with⟨hca0,hca1,hca2,hca3⟩ | ⟨hca0,hca1,hca2,hca3⟩
  ·refine Xc [(47,.bool false),(50,.func (.func 50) #[] #[]),(53,.int .u32 r)] (by(try dsimp only[Iy,IA,J8,J7,GV,GX,Gx,GI,EJ]);simp only[hca1,hca2,hca3]) ?_
   refine Bq 11 ?_
   refine FU [] [] 50 #[.int .u32 r] (some 54) (by as_aux_lemma=>kernel_rfl) rfl rfl Ae ?_
   intro w30 hw30
   refine(ZaJ w30 _ r hca0).mono ?_
   rintro e w31 ⟨rfl,hkw31⟩
   have hnw31:n11+1≤w31.heap.size:=Ef hw30 hkw31
   have hs32:=hw30.keeps hkw31
   refine⟨_,_,rfl,hs32,.inr (fun c hc=>hs32.all c (by first | exact hc | exact DW (is:=[0,1,2,3,4,5,6,7,8,9,10]) rfl c hc)), ?_⟩
   refine CY [47,54] [(47,.bool false),(54,.bool (IQ V.q r))] ?_
   refine Ci [(12,o0),(13,o0)] [4] [] (Dw 14 0) [(4,.bool (IQ V.q r))] Ae ?_
   refine CE ?_
   refine BI [4] [(4,.bool (IQ V.q r))] ?_
   refine Gy <| Iu <| Az [] [] (.bool (IQ V.q r)) Ae ?_
   intro w33 hw33
   refine⟨_,_,rfl,hw33, ?_⟩
   refine EI 10 0 [0] [[(ov (.bool false))],[(an 10 8),o0,(an 10 6),o0,o0]] [Value.bool (!(IQ V.q r))=Value.bool false,Qb (z+2),Qb (z+2),Qb (z+2),Qb (z+2),Qb (z+2),Qb (z+2),Qb (z+2),Qb (z+2),Qb (z+2),Qb (z+2),Qb z,Qb z,Qb z,Qb z,Qb z,Qb z,Qb z,Qb z,Qb z,Qb z] [(8,pt z),(MO z),(10,i6 0)] ⟨w,w31.heap.size,[(old S0 w),(GV V),(EJ V),(Cm V.B V.WS V.QS),(GX V),(GI V W),(OV z V),(Iy z V),(IA z V),(Gx z s r t pc o),(J8 V n11)]⟩ rfl ⟨by simp[hag],rfl,rfl,rfl,rfl,rfl,rfl,rfl,rfl,rfl,rfl,rfl,rfl,rfl,rfl,rfl,rfl,rfl,rfl,rfl,rfl,Ae⟩ ?_
   refine Az [.at 6,.at 6,.at 6,.at 6,.at 6,.at 6,.at 6,.at 6,.at 6,.at 6] [Qb z,Qb z,Qb z,Qb z,Qb z,Qb z,Qb z,Qb z,Qb z,Qb z] (.tuple #[.agg #[i6 V.lk,Ac V.sv,Ac V.st,i6 V.rt,.slice V.ta V.tn V.tc,.int .u32 V.q.Entry,.int .u32 V.q.A7,.int .u32 V.q.AV,.func (.func V.fa) #[] V.ca,.func (.func V.fb) #[] V.ca],.slice (some ⟨z+3,0,none⟩) 5 5,i6 0]) ⟨rfl,rfl,rfl,rfl,rfl,rfl,rfl,rfl,rfl,rfl,Ae⟩ ?_
   intro w34 hw34
   have h4:=hw34.pick [1,2,3,4,5,9] rfl rfl
   (try dsimp only[Iy,IA,J8,OV,GV,GX,Gx,GI,EJ,MO]at h4)
   rw[←hz]
   exact⟨_,_,rfl,(show z≤z+3 by omega),w,by rw[hw34.size];exact h4,Sat.back hw34 rfl (show w.heap.size≤w31.heap.size by omega) (List.mem_cons_self ..)⟩
  refine Xc [(47,.bool false),(50,.func (.func 52) #[] #[pt V.cb]),(53,.int .u32 r)] (by(try dsimp only[Iy,IA,J8,J7,GV,GX,Gx,GI,EJ]);simp only[hca1,hca2,hca3]) ?_
  refine Bq 11 ?_
  refine FU [] [] 52 #[.int .u32 r,pt V.cb] (some 54) (by as_aux_lemma=>kernel_rfl) rfl rfl Ae ?_
  intro w35 hw35
  refine(Zag w35 _ _ r (Yz hw35 (i:=3) rfl hH hca0) hca0 (by omega) (by omega)).mono ?_
  rintro e w36 ⟨rfl,hkw36⟩
  have hnw36:n11+1≤w36.heap.size:=Ef hw35 hkw36
  have hs37:=hw35.keeps hkw36
  refine⟨_,_,rfl,hs37,.inr (fun c hc=>hs37.all c (by first | exact hc | exact DW (is:=[0,1,2,3,4,5,6,7,8,9,10]) rfl c hc)), ?_⟩
  refine CY [47,54] [(47,.bool false),(54,.bool (IQ V.q r))] ?_
  refine Ci [(12,o0),(13,o0)] [4] [] (Dw 14 0) [(4,.bool (IQ V.q r))] Ae ?_
  refine CE ?_
  refine BI [4] [(4,.bool (IQ V.q r))] ?_
  refine Gy <| Iu <| Az [] [] (.bool (IQ V.q r)) Ae ?_
  intro w38 hw38
  refine⟨_,_,rfl,hw38, ?_⟩
  refine EI 10 0 [0] [[(ov (.bool false))],[(an 10 8),o0,(an 10 6),o0,o0]] [Value.bool (!(IQ V.q r))=Value.bool false,Qb (z+2),Qb (z+2),Qb (z+2),Qb (z+2),Qb (z+2),Qb (z+2),Qb (z+2),Qb (z+2),Qb (z+2),Qb (z+2),Qb z,Qb z,Qb z,Qb z,Qb z,Qb z,Qb z,Qb z,Qb z,Qb z] [(8,pt z),(MO z),(10,i6 0)] ⟨w,w36.heap.size,[(old S0 w),(GV V),(EJ V),(Cm V.B V.WS V.QS),(GX V),(GI V W),(OV z V),(Iy z V),(IA z V),(Gx z s r t pc o),(J8 V n11)]⟩ rfl ⟨by simp[hag],rfl,rfl,rfl,rfl,rfl,rfl,rfl,rfl,rfl,rfl,rfl,rfl,rfl,rfl,rfl,rfl,rfl,rfl,rfl,rfl,Ae⟩ ?_
  refine Az [.at 6,.at 6,.at 6,.at 6,.at 6,.at 6,.at 6,.at 6,.at 6,.at 6] [Qb z,Qb z,Qb z,Qb z,Qb z,Qb z,Qb z,Qb z,Qb z,Qb z] (.tuple #[.agg #[i6 V.lk,Ac V.sv,Ac V.st,i6 V.rt,.slice V.ta V.tn V.tc,.int .u32 V.q.Entry,.int .u32 V.q.A7,.int .u32 V.q.AV,.func (.func V.fa) #[] V.ca,.func (.func V.fb) #[] V.ca],.slice (some ⟨z+3,0,none⟩) 5 5,i6 0]) ⟨rfl,rfl,rfl,rfl,rfl,rfl,rfl,rfl,rfl,rfl,Ae⟩ ?_
  intro w39 hw39
  have h4:=hw39.pick [1,2,3,4,5,9] rfl rfl
  (try dsimp only[Iy,IA,J8,OV,GV,GX,Gx,GI,EJ,MO]at h4)
  rw[←hz]
  exact⟨_,_,rfl,(show z≤z+3 by omega),w,by rw[hw39.size];exact h4,Sat.back hw39 rfl (show w.heap.size≤w36.heap.size by omega) (List.mem_cons_self ..)⟩
 refine DZ 14 [0,1,2,3,4,5,6,7,8,9,10] [(old S0 w),(GV V),(EJ V),(Cm V.B V.WS V.QS),(GX V),(GI V W),(J7 z),(Iy z V),(IA z V),(Gx z s r t pc o),(J8 V n11)] rfl rfl ?_
 refine Ci [(0,o0),(1,(oi 0)),(2,(oa [.via 9 (.int .u32 s)])),(3,oT),(4,o0),(5,o0),(6,o0),(7,o0),(8,o0),(9,o0),(10,o0),(11,o0),(12,o0),(13,o0)] [4] [(0:Int)=((0:Nat):Int),0<5,BM,∀ w',Ch.holds (Gx z s r t pc o) w'→w'.cell? ⟨z+3,0,none⟩=some (.int .u32 s),NT s 2] (Dw 14 0) [(4,.bool true)] ⟨rfl,(by omega),rfl,C9 (sz:=1) (j:=0) (k:=0) (fun _=>rfl) (by exact of_decide_eq_true rfl) rfl,nt,Ae⟩ ?_
 refine CE ?_
 refine BI [4] [(4,.bool true)] ?_
 refine Gy <| Iu <| Az [] [] (.bool true) Ae ?_
 intro w40 hw40
 refine⟨_,_,rfl,hw40, ?_⟩
 refine EI 10 0 [0] [[o0],[(an 10 8),o0,(an 10 6),o0,o0]] [Qb (z+2),Qb (z+2),Qb (z+2),Qb (z+2),Qb (z+2),Qb (z+2),Qb (z+2),Qb (z+2),Qb (z+2),Qb (z+2),Qb z,Qb z,Qb z,Qb z,Qb z,Qb z,Qb z,Qb z,Qb z,Qb z] [(8,pt z),(MO z),(10,i6 0)] ⟨w,n11+1,[(old S0 w),(GV V),(EJ V),(Cm V.B V.WS V.QS),(GX V),(GI V W),(OV z V),(Iy z V),(IA z V),(Gx z s r t pc o),(J8 V n11)]⟩ rfl ⟨rfl,rfl,rfl,rfl,rfl,rfl,rfl,rfl,rfl,rfl,rfl,rfl,rfl,rfl,rfl,rfl,rfl,rfl,rfl,rfl,Ae⟩ ?_
 refine Az [.at 6,.at 6,.at 6,.at 6,.at 6,.at 6,.at 6,.at 6,.at 6,.at 6] [Qb z,Qb z,Qb z,Qb z,Qb z,Qb z,Qb z,Qb z,Qb z,Qb z] (.tuple #[.agg #[i6 V.lk,Ac V.sv,Ac V.st,i6 V.rt,.slice V.ta V.tn V.tc,.int .u32 V.q.Entry,.int .u32 V.q.A7,.int .u32 V.q.AV,.func (.func V.fa) #[] V.ca,.func (.func V.fb) #[] V.ca],.slice (some ⟨z+3,0,none⟩) 5 5,i6 0]) ⟨rfl,rfl,rfl,rfl,rfl,rfl,rfl,rfl,rfl,rfl,Ae⟩ ?_
 intro w41 hw41
 have h4:=hw41.pick [1,2,3,4,5,9] rfl rfl
 (try dsimp only[Iy,IA,J8,OV,J7,GV,GX,Gx,GI,EJ,MO]at h4)
 rw[←hz]
 exact⟨_,_,rfl,(show z≤z+3 by omega),w,by rw[hw41.size];exact h4,Sat.back hw41 rfl (show w.heap.size≤n11+1 by omega) (List.mem_cons_self ..)⟩
theorem P5{base:Nat}{e:TypeId}{sz:Nat}{v:Value}{α:Type}{cells:α→List Value}{xs:List α}{w:World}(h:(BV base e sz cells v xs).holds w):∀ b,(BV base e sz cells v xs).F b→base≤b:=fun b hb=>(World.ownsRow.lt h b hb).1
theorem ZE{V:HV}{W W':List Int}{m n0:Nat}{extra:List Ch}(hx:∀ c∈extra,∀ b,c.F b→n0≤b):∀ c∈KU V W'++extra,∀ b,c.F b→JY (KU V W) b∨n0≤b:=by
 intro c hc b hb
 rcases List.mem_append.1 hc with hc | hc
 ·left
  rw[WH (W:=W') (W':=W)]
  exact⟨c,hc,hb⟩
 exact .inr (hx c hc b hb)
theorem Oy{V:HV}{W W':List Int}{n0:Nat}:∀ c∈KU V W',∀ b,c.F b→JY (KU V W) b∨n0≤b:=by
 intro c hc b hb
 left
 rw[WH (W:=W') (W':=W)]
 exact⟨c,hc,hb⟩
theorem hw_upd{V:HV}{W W':List Int}(h:Ko V W)(hl:W'.length=V.nW)(hI:∀ k,k<V.nW→0≤gd W' k∧gd W' k<4294967296):Ko V W' :=
 ⟨h.lp,h.ls,h.y,h.gq,h.cf,h.rg,hl,h.wn,h.fr,h.ss,h.sn,h.cw,hI⟩
theorem N9{W l:List Int}{a k:Nat}(h:a+l.length≤W.length)(hk:k<l.length):gd (Ie W a l) (a+k)=gd l k:=by
 have h1:=putL_in h hk
 have h2:=Um h
 rw[EW (by rw[h2];omega),EW hk]
 rw[List.getElem?_eq_getElem (by rw[h2];omega),List.getElem?_eq_getElem hk]at h1
 exact Option.some.inj h1
theorem Qu{W l:List Int}{a k:Nat}(h:a+l.length≤W.length)(hl:k<W.length)(hk:k<a∨a+l.length≤k):gd (Ie W a l) k=gd W k:=by
 have h1:=putL_out h hk
 have h2:=Um h
 rw[EW (by rw[h2];omega),EW hl]
 rw[List.getElem?_eq_getElem (by rw[h2];omega),List.getElem?_eq_getElem hl]at h1
 exact Option.some.inj h1
theorem Zq{V:HV}{W:List Int}(h:Ko V W){a:Nat}{v:Int}(hv:0≤v∧v<4294967296):Ko V (W.set a v):=by
 refine hw_upd h (by rw[List.length_set];exact h.wl) (fun k hk => ?_)
 have hl:=h.wl
 by_cases e:k=a
 ·subst e;rw[MG (by omega)];exact hv
 rw[IZ (Ne.symm e) (by omega)];exact h.wI k hk
theorem hw_put{V:HV}{W l:List Int}(h:Ko V W){a:Nat}(ha:a+l.length≤V.nW)(hv:∀ k,k<l.length→0≤gd l k∧gd l k<4294967296):Ko V (Ie W a l):=by
 have hl:=h.wl
 refine hw_upd h (by rw[Um (by omega)];exact hl) (fun k hk => ?_)
 by_cases e:a≤k∧k<a+l.length
 ·obtain⟨j,rfl⟩:∃ j,k=a+j:=⟨k - a,by omega⟩
  rw[N9 (by omega) (by omega)];exact hv j (by omega)
 rw[Qu (by omega) (by omega) (by omega)];exact h.wI k hk
abbrev I5(f:Nat→Int):Array Value:= #[.int .u32 (f 0),.int .u32 (f 1),.int .u32 (f 2),.int .u32 (f 3),.int .u32 (f 4),.int .u32 (f 5),.int .u32 (f 6),.int .u32 (f 7),.int .u32 (f 8),.int .u32 (f 9),.int .u32 (f 10),.int .u32 (f 11),.int .u32 (f 12),.int .u32 (f 13),.int .u32 (f 14),.int .u32 (f 15),.int .u32 (f 16)]
def LH(f:Nat→Int):List Int:=(List.range 17).map f
def NV(e:Int):Nat→Int
 | 16=>e
 | _=>0
def O5(W:List Int)(a:Nat):Nat→List Int
 | 0=>W
 | k+1=>(O5 W a k).set (a+k) 0
theorem UZ{W:List Int}{a:Nat}:∀ k,(O5 W a k).length=W.length
 | 0=>rfl
 | k+1=>by unfold O5;rw[List.length_set];exact UZ k
theorem Zg{V:HV}{W:List Int}{a:Nat}(h:Ko V W):∀ k,Ko V (O5 W a k)
 | 0=>h
 | k+1=>Zq (Zg h k) (by decide)
section
variable (w3:World)(V:HV)(z g4 cp5:Nat)(s r:Int)(t pc o:Int)(W:List Int)
abbrev Xh:Ch:= .blk w3.heap.size (.cells (Iw.arr ⟨V.lk,V.sv,V.st,V.rt,.slice V.ta V.tn V.tc,V.q.Entry,V.q.A7,V.q.AV,V.fa,V.fb,V.ca⟩) 81 (0,0)) true
abbrev ZI:=bk z #[i6 0,i6 0,i6 0,.int .u32 0,i6 0] 45
abbrev Ux:Ch:= .blk V.dp (.cells #[i6 V.fr,.slice (some ⟨V.gV,0,none⟩) V.nP V.cV] 113 (0,0)) true
abbrev U9:Ch:= .blk V.mq (.cells #[.slice (some ⟨V.gW,0,none⟩) V.nW V.cW] 106 (0,0)) true
abbrev PZ:=BV (z+1) 38 1 (fun x:Int=>[Value.int .u32 x]) (.slice (some ⟨g4,0,none⟩) 5 cp5) ([s,r,t,pc,o]:List Int)
abbrev UG:=BV V.n2 38 1 (fun x:Int=>[Value.int .u32 x]) (.slice (some ⟨V.gW,0,none⟩) V.nW V.cW) W
abbrev UE:=BV V.n 81 10 Iw.cells (.slice (some ⟨V.gV,0,none⟩) V.nP V.cV) V.WS
end
theorem X6(w w0:World)(V:HV)(W:List Int)(hO:Sat ⟨w0,w.heap.size,KU V W⟩ w)(S0:Nat→Prop)(hS0:S0=JY (KU V W))(hn1:V.n≤w.heap.size)(hn2:V.n2≤w.heap.size)(hH:Ko V W)(s r t pc o:Int)(h5:S5 W V.st s r t pc o)(hR:Rg V.q s r t pc o):Calls Tryd.prog 8 #[.pointer (some ⟨V.dp,0,none⟩),.pointer (some ⟨V.mq,0,none⟩),.int .i64 (V.p:Int)] w fun e w'=>e = .returned (.tuple #[.agg #[.int .i64 s,.int .i64 r,.int .i64 t,.int .u32 pc,.int .i64 o],.int .i64 0])∧Sat ⟨w,w'.heap.size,KU V W⟩ w'∧Ce S0 w w':=by
 obtain⟨z,hz⟩:∃ z,z=w.heap.size:=⟨_,rfl⟩
 refine Bf (args:=[pt V.dp,pt V.mq,Ac V.p]) 43 ⟨w,z,[(old S0 w),(Ux V),(UE V),(Cm V.B V.WS V.QS),(U9 V),(UG V W)]⟩ Tryd.func8 rfl (by kernel_rfl) (by kernel_rfl) (hS0 ▸ hz ▸ O4 hO IB) ?_
 have hwl:=hH.wl;have hwn:=hH.wn;have hfr:=hH.fr;have hlp:=hH.lp;have hls:=hH.ls;have hcw:=hH.cw;have hsn:=hH.sn;have hss:=hH.ss;have hq1:=hH.rg.en;have hq2:=hH.rg.ac;have hq3:=hH.rg.re;have hq4:=hH.rg.ou;have hs1:=hR.hs;have hs2:=hR.hr;have hs3:=hR.ht;have hs4:=hR.tp;have hs5:=hR.hpc;have hs6:=hR.ho
 refine Di [0,1,2] [(0,pt V.dp),(1,pt V.mq),(2,Ac V.p)] ?_
 refine q_c 6 3 [] [[o0,o0],[o0,o0,o0]] [] [(6,pt z),(12,pt V.dp),(13,pt V.mq),(14,Ac V.p)] ⟨w,z+1,[(old S0 w),(Ux V),(UE V),(Cm V.B V.WS V.QS),(U9 V),(UG V W),(ZI z)]⟩ rfl Ae ?_
 refine l_call [] [] 20 #[pt V.dp,pt V.mq,Ac V.p,.bool false] (some 15) Ae ?_
 intro w1 hw1
 have hq2:=hw1.pick [1,2,3,4,5] rfl rfl
 refine(SN w1 w V W (by rw[hw1.size];exact hq2) _ rfl (by have:=hw1.size;simp only[]at this;omega) (by have:=hw1.size;simp only[]at this;omega) hH s r t pc o h5 hR).mono ?_
 rintro e w3 ⟨g4,cp5,rfl,hgw3,w6,hSw3,hkw3⟩
 have hnw3:z+1≤w3.heap.size:=Ef hw1 hkw3
 rw[show w1.heap.size=z+1 from hw1.size]at hSw3 hgw3
 refine⟨_,_,rfl,hw1.turn [0,6] [1,2,3,4,5] rfl rfl rfl (by decide) (IB (V:=V)) hkw3 (fun c hc=>⟨hSw3.all c hc,hSw3.Kq c hc,fun b hb=>⟨hSw3.bnd c hc b hb,ZE (m:=0) (fun d hd b hb=>by rw[List.mem_singleton.1 hd]at hb;rw[show w1.heap.size=z+1 from hw1.size];exact P5 (hSw3.all _ (List.mem_append_right _ (List.mem_singleton.2 rfl))) b hb) c hc b hb⟩⟩) hSw3.Jq, ?_⟩
 refine EI 11 0 [0] [[o0,o0,o0,o0,o0,(an 10 8),o0,o0],[o0,o0]] [Qb w3.heap.size,Qb w3.heap.size,Qb w3.heap.size,Qb w3.heap.size,Qb w3.heap.size,Qb w3.heap.size,Qb w3.heap.size,Qb w3.heap.size,Qb w3.heap.size,Qb w3.heap.size] [(6,pt z),(9,.slice (some ⟨g4,0,none⟩) 5 cp5),(10,i6 0),(20,.bool false)] ⟨w,w3.heap.size+1,[(old S0 w),(ZI z),(Ux V),(UE V),(Cm V.B V.WS V.QS),(U9 V),(UG V W),(PZ z g4 cp5 s r t pc o),(Xh w3 V)]⟩ rfl ⟨rfl,rfl,rfl,rfl,rfl,rfl,rfl,rfl,rfl,rfl,Ae⟩ ?_
 refine DZ 20 [0,1,2,3,4,5,6,7,8] [(old S0 w),(ZI z),(Ux V),(UE V),(Cm V.B V.WS V.QS),(U9 V),(UG V W),(PZ z g4 cp5 s r t pc o),(Xh w3 V)] rfl rfl ?_
 refine Ci [(0,o0),(1,(oi 0)),(2,(oa [.via 7 (.int .u32 s)])),(3,(ov (i6 s))),(4,o0),(5,(oi 1)),(6,(oa [.via 7 (.int .u32 r)])),(7,(ov (i6 r))),(8,o0),(9,(oi 2)),(10,(oa [.via 7 (.int .u32 t)])),(11,(ov (i6 t))),(12,o0),(13,(oi 3)),(14,(oa [.via 7 (.int .u32 pc)])),(15,o0),(16,(oi 4)),(17,(oa [.via 7 (.int .u32 o)])),(18,(ov (i6 o))),(19,o0)] [6,42] [(0:Int)=((0:Nat):Int),0<5,BM,∀ w',Ch.holds (PZ z g4 cp5 s r t pc o) w'→w'.cell? ⟨g4,0,none⟩=some (.int .u32 s),Wr (s) (s),(1:Int)=((1:Nat):Int),1<5,BM,∀ w',Ch.holds (PZ z g4 cp5 s r t pc o) w'→w'.cell? ⟨g4,1,none⟩=some (.int .u32 r),Wr (r) (r),(2:Int)=((2:Nat):Int),2<5,BM,∀ w',Ch.holds (PZ z g4 cp5 s r t pc o) w'→w'.cell? ⟨g4,2,none⟩=some (.int .u32 t),Wr (t) (t),(3:Int)=((3:Nat):Int),3<5,BM,∀ w',Ch.holds (PZ z g4 cp5 s r t pc o) w'→w'.cell? ⟨g4,3,none⟩=some (.int .u32 pc),(4:Int)=((4:Nat):Int),4<5,BM,∀ w',Ch.holds (PZ z g4 cp5 s r t pc o) w'→w'.cell? ⟨g4,4,none⟩=some (.int .u32 o),Wr (o) (o)] (Dw 20 2) [(6,pt z),(42,.agg #[i6 s,i6 r,i6 t,.int .u32 pc,i6 o])] ⟨rfl,(by omega),rfl,C9 (sz:=1) (j:=0) (k:=0) (fun _=>rfl) (by exact of_decide_eq_true rfl) rfl,BP rfl,rfl,(by omega),rfl,C9 (sz:=1) (j:=1) (k:=0) (fun _=>rfl) (by exact of_decide_eq_true rfl) rfl,BP rfl,rfl,(by omega),rfl,C9 (sz:=1) (j:=2) (k:=0) (fun _=>rfl) (by exact of_decide_eq_true rfl) rfl,BP rfl,rfl,(by omega),rfl,C9 (sz:=1) (j:=3) (k:=0) (fun _=>rfl) (by exact of_decide_eq_true rfl) rfl,rfl,(by omega),rfl,C9 (sz:=1) (j:=4) (k:=0) (fun _=>rfl) (by exact of_decide_eq_true rfl) rfl,BP rfl,Ae⟩ ?_
 refine Bq 20 ?_
 refine BC (an 5 1) [6] [Qb z,Qb z,Qb z,Qb z,Qb z] [(6,pt z)] ⟨w,w3.heap.size+1,[(old S0 w),(bk z #[i6 s,i6 r,i6 t,.int .u32 pc,i6 o] 45),(Ux V),(UE V),(Cm V.B V.WS V.QS),(U9 V),(UG V W),(PZ z g4 cp5 s r t pc o),(Xh w3 V)]⟩ [] ⟨rfl,rfl,rfl,rfl,rfl,Ae⟩ (.inl rfl) ?_
 refine DX 22 [0,1,2,3,4,5,6,7,8] [(old S0 w),(bk z #[i6 s,i6 r,i6 t,.int .u32 pc,i6 o] 45),(Ux V),(UE V),(Cm V.B V.WS V.QS),(U9 V),(UG V W),(PZ z g4 cp5 s r t pc o),(Xh w3 V)] rfl rfl ?_
 refine Ci [(21,o0)] [6,7] [] (Dw 22 0) [(6,pt z),(7,i6 0)] Ae ?_
 refine CE ?_
 refine BI [6,7] [(6,pt z),(7,i6 0)] ?_
 refine Gy <| Iu <| Az [.at 1,.at 1,.at 1,.at 1,.at 1] [Qb z,Qb z,Qb z,Qb z,Qb z] (.tuple #[.agg #[i6 s,i6 r,i6 t,.int .u32 pc,i6 o],i6 0]) ⟨rfl,rfl,rfl,rfl,rfl,Ae⟩ ?_
 intro w7 hw7
 have h4:=hw7.pick [2,3,4,5,6] rfl rfl
 (try dsimp only[Xh,ZI,Ux,U9,PZ,UG,UE]at h4)
 exact⟨rfl,by rw[hw7.size];exact h4,Sat.back hw7 rfl (show w.heap.size≤w3.heap.size+1 by omega) (List.mem_cons_self ..)⟩
section
variable (w3:World)(V:HV)(z g4 cp5:Nat)(s r:Int)(t pc o:Int)(W:List Int)
abbrev ZV:Ch:= .blk w3.heap.size (.cells (Iw.arr ⟨V.lk,V.sv,V.st,V.rt,.slice V.ta V.tn V.tc,V.q.Entry,V.q.A7,V.q.AV,V.fa,V.fb,V.ca⟩) 81 (0,0)) true
abbrev XA:Ch:= .blk V.dp (.cells #[i6 V.fr,.slice (some ⟨V.gV,0,none⟩) V.nP V.cV] 113 (0,0)) true
abbrev XN:Ch:= .blk V.mq (.cells #[.slice (some ⟨V.gW,0,none⟩) V.nW V.cW] 106 (0,0)) true
abbrev Zo:=BV z 38 1 (fun x:Int=>[Value.int .u32 x]) (.slice (some ⟨g4,0,none⟩) 5 cp5) ([s,r,t,pc,o]:List Int)
abbrev WT:=BV V.n2 38 1 (fun x:Int=>[Value.int .u32 x]) (.slice (some ⟨V.gW,0,none⟩) V.nW V.cW) W
abbrev Xg:=BV V.n 81 10 Iw.cells (.slice (some ⟨V.gV,0,none⟩) V.nP V.cV) V.WS
end
theorem ZU(w w0:World)(V:HV)(W:List Int)(hO:Sat ⟨w0,w.heap.size,KU V W⟩ w)(S0:Nat→Prop)(hS0:S0=JY (KU V W))(hn1:V.n≤w.heap.size)(hn2:V.n2≤w.heap.size)(hH:Ko V W)(s r t pc o:Int)(h5:S5 W V.st s r t pc o)(hR:Rg V.q s r t pc o)(xv:Int)(hxv:0≤xv∧xv<4294967296):Calls Tryd.prog 34 #[.pointer (some ⟨V.dp,0,none⟩),.pointer (some ⟨V.mq,0,none⟩),.int .i64 (V.p:Int),.int .u32 xv] w fun e w'=>e = .returned (.int .i64 0)∧Sat ⟨w,w'.heap.size,KU V (W.set V.st xv)⟩ w'∧Ce S0 w w':=by
 obtain⟨z,hz⟩:∃ z,z=w.heap.size:=⟨_,rfl⟩
 refine Bf (args:=[pt V.dp,pt V.mq,Ac V.p,.int .u32 xv]) 30 ⟨w,z,[(old S0 w),(XA V),(Xg V),(Cm V.B V.WS V.QS),(XN V),(WT V W)]⟩ Tryd.func34 rfl (by kernel_rfl) (by kernel_rfl) (hS0 ▸ hz ▸ O4 hO IB) ?_
 have hwl:=hH.wl;have hwn:=hH.wn;have hfr:=hH.fr;have hlp:=hH.lp;have hls:=hH.ls;have hcw:=hH.cw;have hsn:=hH.sn;have hss:=hH.ss;have hq1:=hH.rg.en;have hq2:=hH.rg.ac;have hq3:=hH.rg.re;have hq4:=hH.rg.ou;have hs1:=hR.hs;have hs2:=hR.hr;have hs3:=hR.ht;have hs4:=hR.tp;have hs5:=hR.hpc;have hs6:=hR.ho
 refine Di [0,1,2,3] [(0,pt V.dp),(1,pt V.mq),(2,Ac V.p),(3,.int .u32 xv)] ?_
 refine Au 6 3 [] [[o0],[o0,o0,o0]] [] [(1,pt V.mq),(3,.int .u32 xv),(13,pt V.dp),(14,pt V.mq),(15,Ac V.p)] rfl Ae ?_
 refine l_call [] [] 20 #[pt V.dp,pt V.mq,Ac V.p,.bool false] (some 16) Ae ?_
 intro w1 hw1
 have hq2:=hw1.pick [1,2,3,4,5] rfl rfl
 refine(SN w1 w V W (by rw[hw1.size];exact hq2) _ rfl (by have:=hw1.size;simp only[]at this;omega) (by have:=hw1.size;simp only[]at this;omega) hH s r t pc o h5 hR).mono ?_
 rintro e w3 ⟨g4,cp5,rfl,hgw3,w6,hSw3,hkw3⟩
 have hnw3:z≤w3.heap.size:=Ef hw1 hkw3
 rw[show w1.heap.size=z from hw1.size]at hSw3 hgw3
 refine⟨_,_,rfl,hw1.turn [0] [1,2,3,4,5] rfl rfl rfl (by decide) (IB (V:=V)) hkw3 (fun c hc=>⟨hSw3.all c hc,hSw3.Kq c hc,fun b hb=>⟨hSw3.bnd c hc b hb,ZE (m:=0) (fun d hd b hb=>by rw[List.mem_singleton.1 hd]at hb;rw[show w1.heap.size=z from hw1.size];exact P5 (hSw3.all _ (List.mem_append_right _ (List.mem_singleton.2 rfl))) b hb) c hc b hb⟩⟩) hSw3.Jq, ?_⟩
 refine EI 12 6 [0] [[o0,o0,o0,o0,o0,(an 10 7),o0,o0],[o0,o0],[o0,o0,o0,(a1 7),(ov (i6 ((V.st+0:Nat):Int))),o0]] [Qb w3.heap.size,Qb w3.heap.size,Qb w3.heap.size,Qb w3.heap.size,Qb w3.heap.size,Qb w3.heap.size,Qb w3.heap.size,Qb w3.heap.size,Qb w3.heap.size,Qb w3.heap.size,Qb w3.heap.size,Wr ((V.st:Int)+0) (((V.st+0:Nat):Int))] [(23,pt V.mq),(27,i6 ((V.st+0:Nat):Int)),(28,.int .u32 xv)] ⟨w,w3.heap.size+1,[(old S0 w),(XA V),(Xg V),(Cm V.B V.WS V.QS),(XN V),(WT V W),(Zo z g4 cp5 s r t pc o),(ZV w3 V)]⟩ rfl ⟨rfl,rfl,rfl,rfl,rfl,rfl,rfl,rfl,rfl,rfl,rfl,BP,Ae⟩ ?_
 refine l_call [] [] 22 #[pt V.mq,i6 ((V.st+0:Nat):Int),.int .u32 xv] (some 29) Ae ?_
 intro w7 hw7
 refine Bf (args:=[pt V.mq,i6 ((V.st+0:Nat):Int),.int .u32 xv]) 21 ⟨w,w3.heap.size+1,[(old S0 w),(XA V),(Xg V),(Cm V.B V.WS V.QS),(XN V),(WT V W),(Zo z g4 cp5 s r t pc o),(ZV w3 V)]⟩ Tryd.func22 rfl (by kernel_rfl) (by kernel_rfl) hw7 ?_
 refine Au 6 2 [] [[o0],[o0,o0]] [] [(0,pt V.mq),(1,i6 ((V.st+0:Nat):Int)),(2,.int .u32 xv),(8,pt V.mq),(9,i6 ((V.st+0:Nat):Int))] rfl Ae ?_
 refine l_call [] [] 36 #[pt V.mq,i6 ((V.st+0:Nat):Int),i6 1] (some 10) Ae ?_
 intro w8 hw8
 refine Bf (args:=[pt V.mq,i6 ((V.st+0:Nat):Int),i6 1]) 35 ⟨w,w3.heap.size+1,[(old S0 w),(XA V),(Xg V),(Cm V.B V.WS V.QS),(XN V),(WT V W),(Zo z g4 cp5 s r t pc o),(ZV w3 V)]⟩ Tryd.func36 rfl (by kernel_rfl) (by kernel_rfl) hw8 ?_
 refine Au 25 0 [0,0] [[o0],[o0,o0],[o0,oF,o0,o0,o0,o0,o0,o0,o0,o0,o0,(a1 4),o0,oF,o0,o0,o0,o0,o0,o0,(a1 4),o0,o0,(ov (i6 ((V.nW:Int) - ((V.st+0:Nat):Int)))),oF,o0],[o0]] [BF ((((V.st+0:Nat):Int):Int)<0),Qb V.mq,BF ((((V.st+0:Nat):Int):Int) > (V.nW:Int)),Qb V.mq,Wr ((V.nW:Int) - ((V.st+0:Nat):Int)) ((V.nW:Int) - ((V.st+0:Nat):Int)),BF ((1:Int) > ((V.nW:Int) - ((V.st+0:Nat):Int)))] [(6,i6 0)] rfl ⟨bf,rfl,bf,rfl,BP,bf,Ae⟩ ?_
 refine Az [] [] (i6 0) Ae ?_
 intro w9 hw9
 refine⟨_,_,rfl,hw9, ?_⟩
 refine AZ 9 7 [1] [[o0],[o0,o0],[o0,o0,o0,(a1 4),o0,o0,(oi (V.st+0))]] [Qb V.mq,(((V.st+0:Nat):Int):Int)=((V.st+0:Nat):Int),V.st+0<V.nW,BM] [(7,i6 0),(18,.int .u32 xv),(19,.pointer (some ⟨V.gW,0+(V.st+0),none⟩))] rfl ⟨rfl,rfl,(by omega),rfl,Ae⟩ ?_
 refine G5 5 (V.st+0) 0 W xv (fun x:Int=>[Value.int .u32 x]) V.n2 38 1 V.gW V.nW V.cW (.int .u32 xv) none (by first | omega | (simp only[List.length_set];omega)) rfl ?_
 refine AZ 7 0 [] [[],[o0,o0]] [] [(6,i6 0)] rfl Ae ?_
 refine Az [] [] (i6 0) Ae ?_
 intro w10 hw10
 refine⟨_,_,rfl,hw10, ?_⟩
 refine AZ 3 0 [] [[o0]] [] [(8,i6 0)] rfl Ae ?_
 refine Az [] [] (i6 0) Ae ?_
 intro w11 hw11
 have h4:=hw11.pick [1,2,3,4,5] rfl rfl
 (try dsimp only[ZV,XA,XN,Zo,WT,Xg]at h4)
 exact⟨rfl,by rw[hw11.size];exact h4,Sat.back hw11 rfl (show w.heap.size≤w3.heap.size+1 by omega) (List.mem_cons_self ..)⟩
section
variable (w3:World)(V:HV)(z g4 cp5:Nat)(s r:Int)(t pc:Int)(o tr pcn:Int)(W:List Int)
abbrev Md:Ch:= .blk w3.heap.size (.cells (Iw.arr ⟨V.lk,V.sv,V.st,V.rt,.slice V.ta V.tn V.tc,V.q.Entry,V.q.A7,V.q.AV,V.fa,V.fb,V.ca⟩) 81 (0,0)) true
abbrev LK:Ch:= .blk V.dp (.cells #[i6 V.fr,.slice (some ⟨V.gV,0,none⟩) V.nP V.cV] 113 (0,0)) true
abbrev LJ:Ch:= .blk V.mq (.cells #[.slice (some ⟨V.gW,0,none⟩) V.nW V.cW] 106 (0,0)) true
abbrev TB:=BV z 38 1 (fun x:Int=>[Value.int .u32 x]) (.slice (some ⟨g4,0,none⟩) 5 cp5) ((((([s,r,t,pc,o]:List Int).set 0 2).set 2 tr).set 3 pcn).set 0 3)
abbrev Tt:=BV z 38 1 (fun x:Int=>[Value.int .u32 x]) (.slice (some ⟨g4,0,none⟩) 5 cp5) (((([s,r,t,pc,o]:List Int).set 0 2).set 2 tr).set 3 pcn)
abbrev Xp:=BV z 38 1 (fun x:Int=>[Value.int .u32 x]) (.slice (some ⟨g4,0,none⟩) 5 cp5) ([s,r,t,pc,o]:List Int)
abbrev Lt:=BV V.n2 38 1 (fun x:Int=>[Value.int .u32 x]) (.slice (some ⟨V.gW,0,none⟩) V.nW V.cW) W
abbrev LM:=BV V.n 81 10 Iw.cells (.slice (some ⟨V.gV,0,none⟩) V.nP V.cV) V.WS
abbrev TC:D7:=(20,.slice (some ⟨V.gW,0+Ee 1 V.st,none⟩) (V.nW - V.st) (V.cW - V.st))
abbrev I8:=(12,pt w3.heap.size)
abbrev Hw:D7:=(13,.slice (some ⟨g4,0,none⟩) 5 cp5)
abbrev QH:D7:=(43,.slice (some ⟨g4,0,none⟩) 5 cp5)
abbrev GY:=(1,pt V.mq)
end
theorem trap_calls(w w0:World)(V:HV)(W:List Int)(hO:Sat ⟨w0,w.heap.size,KU V W⟩ w)(S0:Nat→Prop)(hS0:S0=JY (KU V W))(hn1:V.n≤w.heap.size)(hn2:V.n2≤w.heap.size)(hH:Ko V W)(s r t pc o:Int)(h5:S5 W V.st s r t pc o)(hR:Rg V.q s r t pc o)(tr pcn:Int)(htr:1≤tr∧tr≤6)(hpn:0≤pcn∧pcn<4294967296):Calls Tryd.prog 9 #[.pointer (some ⟨V.dp,0,none⟩),.pointer (some ⟨V.mq,0,none⟩),.int .i64 (V.p:Int),.int .i64 tr,.int .u32 pcn] w fun e w'=>e = .returned (.tuple #[.bool (!IQ V.q r),.int .i64 0])∧Sat ⟨w,w'.heap.size,KU V (Ie W V.st [if IQ V.q r=true then 2 else 3,r,tr,pcn,o])⟩ w'∧Ce S0 w w':=by
 obtain⟨z,hz⟩:∃ z,z=w.heap.size:=⟨_,rfl⟩
 refine Bf (args:=[pt V.dp,pt V.mq,Ac V.p,i6 tr,.int .u32 pcn]) 60 ⟨w,z,[(old S0 w),(LK V),(LM V),(Cm V.B V.WS V.QS),(LJ V),(Lt V W)]⟩ Tryd.func9 rfl (by kernel_rfl) (by kernel_rfl) (hS0 ▸ hz ▸ O4 hO IB) ?_
 have hwl:=hH.wl;have hwn:=hH.wn;have hfr:=hH.fr;have hlp:=hH.lp;have hls:=hH.ls;have hcw:=hH.cw;have hsn:=hH.sn;have hss:=hH.ss;have hq1:=hH.rg.en;have hq2:=hH.rg.ac;have hq3:=hH.rg.re;have hq4:=hH.rg.ou;have hs1:=hR.hs;have hs2:=hR.hr;have hs3:=hR.ht;have hs4:=hR.tp;have hs5:=hR.hpc;have hs6:=hR.ho
 refine Di [0,1,2,3,4] [(0,pt V.dp),(GY V),(2,Ac V.p),(3,i6 tr),(4,.int .u32 pcn)] ?_
 refine Au 6 9 [] [[o0,o0],[o0,o0,o0,o0,oF,o0,o0,oF,o0]] [BF ((tr:Int)<1),BF ((tr:Int) > 6)] [(GY V),(3,i6 tr),(4,.int .u32 pcn),(17,pt V.dp),(18,pt V.mq),(19,Ac V.p),(25,.bool false)] rfl ⟨bf,bf,Ae⟩ ?_
 refine l_call [] [] 20 #[pt V.dp,pt V.mq,Ac V.p,.bool false] (some 26) Ae ?_
 intro w1 hw1
 have hq2:=hw1.pick [1,2,3,4,5] rfl rfl
 refine(SN w1 w V W (by rw[hw1.size];exact hq2) _ rfl (by have:=hw1.size;simp only[]at this;omega) (by have:=hw1.size;simp only[]at this;omega) hH s r t pc o h5 hR).mono ?_
 rintro e w3 ⟨g4,cp5,rfl,hgw3,w6,hSw3,hkw3⟩
 have hnw3:z≤w3.heap.size:=Ef hw1 hkw3
 rw[show w1.heap.size=z from hw1.size]at hSw3 hgw3
 refine⟨_,_,rfl,hw1.turn [0] [1,2,3,4,5] rfl rfl rfl (by decide) (IB (V:=V)) hkw3 (fun c hc=>⟨hSw3.all c hc,hSw3.Kq c hc,fun b hb=>⟨hSw3.bnd c hc b hb,ZE (m:=0) (fun d hd b hb=>by rw[List.mem_singleton.1 hd]at hb;rw[show w1.heap.size=z from hw1.size];exact P5 (hSw3.all _ (List.mem_append_right _ (List.mem_singleton.2 rfl))) b hb) c hc b hb⟩⟩) hSw3.Jq, ?_⟩
 refine EI 11 0 [0] [[o0,o0,o0,o0,o0,(an 10 7),o0,o0],[o0,o0]] [Qb w3.heap.size,Qb w3.heap.size,Qb w3.heap.size,Qb w3.heap.size,Qb w3.heap.size,Qb w3.heap.size,Qb w3.heap.size,Qb w3.heap.size,Qb w3.heap.size,Qb w3.heap.size] [(GY V),(3,i6 tr),(4,.int .u32 pcn),(I8 w3),(Hw g4 cp5),(14,i6 0),(31,.bool false)] ⟨w,w3.heap.size+1,[(old S0 w),(LK V),(LM V),(Cm V.B V.WS V.QS),(LJ V),(Lt V W),(Xp z g4 cp5 s r t pc o),(Md w3 V)]⟩ rfl ⟨rfl,rfl,rfl,rfl,rfl,rfl,rfl,rfl,rfl,rfl,Ae⟩ ?_
 refine DZ 9 [0,1,2,3,4,5,6,7] [(old S0 w),(LK V),(LM V),(Cm V.B V.WS V.QS),(LJ V),(Lt V W),(Xp z g4 cp5 s r t pc o),(Md w3 V)] rfl rfl ?_
 refine Ci [(0,o0),(1,o0),(2,(a1 7)),(3,o0),(4,(oi 1)),(5,(oa [.via 6 (.int .u32 r)]))] [1,3,4,12,13,35,38] [Qb w3.heap.size,(1:Int)=((1:Nat):Int),1<5,BM,∀ w',Ch.holds (Xp z g4 cp5 s r t pc o) w'→w'.cell? ⟨g4,1,none⟩=some (.int .u32 r)] (Dw 6 3) [(GY V),(3,i6 tr),(4,.int .u32 pcn),(I8 w3),(Hw g4 cp5),(35,.func (.func V.fa) #[] V.ca),(38,.int .u32 r)] ⟨rfl,rfl,(by omega),rfl,C9 (sz:=1) (j:=1) (k:=0) (fun _=>rfl) (by exact of_decide_eq_true rfl) rfl,Ae⟩ ?_
 rcases hH.cf with⟨hca0,hca1,hca2,hca3⟩ | ⟨hca0,hca1,hca2,hca3⟩
 ·refine Xc [(GY V),(3,i6 tr),(4,.int .u32 pcn),(I8 w3),(Hw g4 cp5),(35,.func (.func 50) #[] #[]),(38,.int .u32 r)] (by(try dsimp only[Md,LK,LJ,Xp,Lt,LM,I8,Hw,GY]);simp only[hca1,hca2,hca3]) ?_
  refine Bq 6 ?_
  refine FU [] [] 50 #[.int .u32 r] (some 39) (by as_aux_lemma=>kernel_rfl) rfl rfl Ae ?_
  intro w7 hw7
  refine(ZaJ w7 _ r hca0).mono ?_
  rintro e w8 ⟨rfl,hkw8⟩
  have hnw8:w3.heap.size+1≤w8.heap.size:=Ef hw7 hkw8
  have hs9:=hw7.keeps hkw8
  refine⟨_,_,rfl,hs9,.inr (fun c hc=>hs9.all c (by first | exact hc | exact DW (is:=[0,1,2,3,4,5,6,7]) rfl c hc)), ?_⟩
  refine CY [1,3,4,12,13,39] [(GY V),(3,i6 tr),(4,.int .u32 pcn),(I8 w3),(Hw g4 cp5),(39,.bool (IQ V.q r))] ?_
  by_cases h10:(IQ V.q r)=true
  ·refine Ci [(7,(ov (.bool false))),(8,o0)] [1,3,4,12,13,15] [Value.bool (!(IQ V.q r))=Value.bool false] (Dw 9 0) [(GY V),(3,i6 tr),(4,.int .u32 pcn),(I8 w3),(Hw g4 cp5),(15,.bool false)] ⟨by simp[h10],Ae⟩ ?_
   refine CE ?_
   refine NU 3 7 [] [[o0,o0,o0,o0,(ov (.int .u32 tr)),o0,(oi 0)]] [Value.int .u32 (IntKind.u32.wrap (tr))=Value.int .u32 (tr),(0:Int)=((0:Nat):Int),0<5,BM] [(GY V),(I8 w3),(Hw g4 cp5),(15,.bool false),(42,.slice (some ⟨g4,0,none⟩) 5 cp5),(QH g4 cp5),(45,.int .u32 tr),(46,.int .u32 pcn),(47,pt g4)] rfl ⟨congrArg (Value.int .u32) (Ru rfl (by omega) (by omega)),rfl,(by omega),rfl,Ae⟩ ?_
   refine G5 6 0 0 ([s,r,t,pc,o]:List Int) 2 (fun x:Int=>[Value.int .u32 x]) z 38 1 g4 5 cp5 (.int .u32 2) none (by exact of_decide_eq_true rfl) rfl ?_
   refine AZ 0 1 [] [[(oi 2)]] [(2:Int)=((2:Nat):Int),2<5,BM] [(GY V),(I8 w3),(Hw g4 cp5),(15,.bool false),(QH g4 cp5),(45,.int .u32 tr),(46,.int .u32 pcn),(48,.pointer (some ⟨g4,2,none⟩))] rfl ⟨rfl,(by omega),rfl,Ae⟩ ?_
   refine G5 6 2 0 (([s,r,t,pc,o]:List Int).set 0 2) tr (fun x:Int=>[Value.int .u32 x]) z 38 1 g4 5 cp5 (.int .u32 tr) none (by exact of_decide_eq_true rfl) rfl ?_
   refine AZ 0 1 [] [[(oi 3)]] [(3:Int)=((3:Nat):Int),3<5,BM] [(GY V),(I8 w3),(Hw g4 cp5),(15,.bool false),(46,.int .u32 pcn),(49,.pointer (some ⟨g4,3,none⟩))] rfl ⟨rfl,(by omega),rfl,Ae⟩ ?_
   refine G5 6 3 0 ((([s,r,t,pc,o]:List Int).set 0 2).set 2 tr) pcn (fun x:Int=>[Value.int .u32 x]) z 38 1 g4 5 cp5 (.int .u32 pcn) none (by exact of_decide_eq_true rfl) rfl ?_
   refine AZ 12 6 [0] [[],[o0],[o0,o0,o0,o0,(a1 7),o0]] [Qb w3.heap.size] [(53,.bool false),(54,pt V.mq),(57,Ac V.st),(58,.slice (some ⟨g4,0,none⟩) 5 cp5)] rfl ⟨rfl,Ae⟩ ?_
   refine l_call [] [] 21 #[pt V.mq,Ac V.st,.slice (some ⟨g4,0,none⟩) 5 cp5] (some 59) Ae ?_
   intro w11 hw11
   refine Bf (args:=[pt V.mq,Ac V.st,.slice (some ⟨g4,0,none⟩) 5 cp5]) 24 ⟨w,w8.heap.size,[(old S0 w),(LK V),(LM V),(Cm V.B V.WS V.QS),(LJ V),(Lt V W),(Tt z g4 cp5 s r t pc o tr pcn),(Md w3 V)]⟩ Tryd.func21 rfl (by kernel_rfl) (by kernel_rfl) hw11 ?_
   refine Au 6 4 [] [[o0],[o0,o0,o0,o0]] [] [(0,pt V.mq),(1,Ac V.st),(2,.slice (some ⟨g4,0,none⟩) 5 cp5),(8,pt V.mq),(9,Ac V.st),(11,i6 5)] rfl Ae ?_
   refine l_call [] [] 36 #[pt V.mq,Ac V.st,i6 5] (some 12) Ae ?_
   intro w12 hw12
   refine Bf (args:=[pt V.mq,Ac V.st,i6 5]) 35 ⟨w,w8.heap.size,[(old S0 w),(LK V),(LM V),(Cm V.B V.WS V.QS),(LJ V),(Lt V W),(Tt z g4 cp5 s r t pc o tr pcn),(Md w3 V)]⟩ Tryd.func36 rfl (by kernel_rfl) (by kernel_rfl) hw12 ?_
   refine Au 25 0 [0,0] [[o0],[o0,o0],[o0,oF,o0,o0,o0,o0,o0,o0,o0,o0,o0,(a1 4),o0,oF,o0,o0,o0,o0,o0,o0,(a1 4),o0,o0,(ov (i6 ((V.nW:Int) - (V.st:Int)))),oF,o0],[o0]] [BF ((V.st:Int)<0),Qb V.mq,BF ((V.st:Int) > (V.nW:Int)),Qb V.mq,Wr ((V.nW:Int) - (V.st:Int)) ((V.nW:Int) - (V.st:Int)),BF ((5:Int) > ((V.nW:Int) - (V.st:Int)))] [(6,i6 0)] rfl ⟨bf,rfl,bf,rfl,BP,bf,Ae⟩ ?_
   refine Az [] [] (i6 0) Ae ?_
   intro w13 hw13
   refine⟨_,_,rfl,hw13, ?_⟩
   refine AZ 9 7 [1] [[o0],[o0,o0],[o0,o0,o0,(a1 4),o0,⟨.slc V.st V.nW true,none⟩,o0]] [Qb V.mq,(V.st:Int)=(V.st:Int),(V.nW:Int)=(V.nW:Int),V.st≤V.nW,V.nW≤V.cW,V.cW≠V.st,BM] [(7,i6 0),(TC V),(21,.slice (some ⟨g4,0,none⟩) 5 cp5)] rfl ⟨rfl,rfl,rfl,(by omega),(by omega),(by omega),rfl,Ae⟩ ?_
   refine QB V.n2 5 V.st 5 6 W (((([s,r,t,pc,o]:List Int).set 0 2).set 2 tr).set 3 pcn) (some ⟨g4,0,none⟩) (fun x:Int=>[Value.int .u32 x]) 38 V.gW (0+Ee 1 V.st) V.nW V.cW (V.nW - V.st) (V.cW - V.st) 5 cp5 (Tt z g4 cp5 s r t pc o tr pcn) (some 22) (by rw[Jy];omega) (XO (by omega)) (by omega) (by have hq9:W.length=V.nW:=hH.wl;omega) rfl (fun w' hw=>QA (fun _=>rfl) hw (by exact of_decide_eq_true rfl) (fun _ _=>trivial)) (fun n14 (hn15:w8.heap.size≤n14) => ?_)
   refine AZ 7 0 [] [[],[o0,o0]] [] [(6,i6 0)] rfl Ae ?_
   refine Az [] [] (i6 0) Ae ?_
   intro w16 hw16
   refine⟨_,_,rfl,hw16, ?_⟩
   refine AZ 3 0 [] [[o0,o0]] [] [(10,.bool false),(11,i6 0)] rfl Ae ?_
   refine Az [] [] (.tuple #[.bool false,i6 0]) Ae ?_
   intro w17 hw17
   have h4:=hw17.pick [1,2,3,4,5] rfl rfl
   (try dsimp only[Md,LK,LJ,Tt,Lt,LM,TC]at h4)
   rw[show(if IQ V.q r=true then(2:Int)else 3)=2 from if_pos h10,show(!IQ V.q r)=false from by simp[h10]]
   exact⟨rfl,by rw[hw17.size];exact h4,Sat.back hw17 rfl (show w.heap.size≤n14 by omega) (List.mem_cons_self ..)⟩
  refine Ci [(7,(ov (.bool true))),(8,o0)] [1,3,4,12,13,15] [Value.bool (!(IQ V.q r))=Value.bool true] (Dw 9 0) [(GY V),(3,i6 tr),(4,.int .u32 pcn),(I8 w3),(Hw g4 cp5),(15,.bool true)] ⟨by simp[h10],Ae⟩ ?_
  refine CE ?_
  refine NU 3 7 [] [[o0,o0,o0,o0,(ov (.int .u32 tr)),o0,(oi 0)]] [Value.int .u32 (IntKind.u32.wrap (tr))=Value.int .u32 (tr),(0:Int)=((0:Nat):Int),0<5,BM] [(GY V),(I8 w3),(Hw g4 cp5),(15,.bool true),(42,.slice (some ⟨g4,0,none⟩) 5 cp5),(QH g4 cp5),(45,.int .u32 tr),(46,.int .u32 pcn),(47,pt g4)] rfl ⟨congrArg (Value.int .u32) (Ru rfl (by omega) (by omega)),rfl,(by omega),rfl,Ae⟩ ?_
  refine G5 6 0 0 ([s,r,t,pc,o]:List Int) 2 (fun x:Int=>[Value.int .u32 x]) z 38 1 g4 5 cp5 (.int .u32 2) none (by exact of_decide_eq_true rfl) rfl ?_
  refine AZ 0 1 [] [[(oi 2)]] [(2:Int)=((2:Nat):Int),2<5,BM] [(GY V),(I8 w3),(Hw g4 cp5),(15,.bool true),(QH g4 cp5),(45,.int .u32 tr),(46,.int .u32 pcn),(48,.pointer (some ⟨g4,2,none⟩))] rfl ⟨rfl,(by omega),rfl,Ae⟩ ?_
  refine G5 6 2 0 (([s,r,t,pc,o]:List Int).set 0 2) tr (fun x:Int=>[Value.int .u32 x]) z 38 1 g4 5 cp5 (.int .u32 tr) none (by exact of_decide_eq_true rfl) rfl ?_
  refine AZ 0 1 [] [[(oi 3)]] [(3:Int)=((3:Nat):Int),3<5,BM] [(GY V),(I8 w3),(Hw g4 cp5),(15,.bool true),(46,.int .u32 pcn),(49,.pointer (some ⟨g4,3,none⟩))] rfl ⟨rfl,(by omega),rfl,Ae⟩ ?_
  refine G5 6 3 0 ((([s,r,t,pc,o]:List Int).set 0 2).set 2 tr) pcn (fun x:Int=>[Value.int .u32 x]) z 38 1 g4 5 cp5 (.int .u32 pcn) none (by exact of_decide_eq_true rfl) rfl ?_
  refine AZ 9 2 [1] [[],[o0],[o0,(oi 0)]] [(0:Int)=((0:Nat):Int),0<5,BM] [(GY V),(I8 w3),(Hw g4 cp5),(15,.bool true),(52,pt g4)] rfl ⟨rfl,(by omega),rfl,Ae⟩ ?_
  refine G5 6 0 0 (((([s,r,t,pc,o]:List Int).set 0 2).set 2 tr).set 3 pcn) 3 (fun x:Int=>[Value.int .u32 x]) z 38 1 g4 5 cp5 (.int .u32 3) none (by exact of_decide_eq_true rfl) rfl ?_
  refine AZ 4 6 [] [[],[o0,o0,o0,o0,(a1 7),o0]] [Qb w3.heap.size] [(53,.bool true),(54,pt V.mq),(57,Ac V.st),(58,.slice (some ⟨g4,0,none⟩) 5 cp5)] rfl ⟨rfl,Ae⟩ ?_
  refine l_call [] [] 21 #[pt V.mq,Ac V.st,.slice (some ⟨g4,0,none⟩) 5 cp5] (some 59) Ae ?_
  intro w18 hw18
  refine Bf (args:=[pt V.mq,Ac V.st,.slice (some ⟨g4,0,none⟩) 5 cp5]) 24 ⟨w,w8.heap.size,[(old S0 w),(LK V),(LM V),(Cm V.B V.WS V.QS),(LJ V),(Lt V W),(TB z g4 cp5 s r t pc o tr pcn),(Md w3 V)]⟩ Tryd.func21 rfl (by kernel_rfl) (by kernel_rfl) hw18 ?_
  refine Au 6 4 [] [[o0],[o0,o0,o0,o0]] [] [(0,pt V.mq),(1,Ac V.st),(2,.slice (some ⟨g4,0,none⟩) 5 cp5),(8,pt V.mq),(9,Ac V.st),(11,i6 5)] rfl Ae ?_
  refine l_call [] [] 36 #[pt V.mq,Ac V.st,i6 5] (some 12) Ae ?_
  intro w19 hw19
  refine Bf (args:=[pt V.mq,Ac V.st,i6 5]) 35 ⟨w,w8.heap.size,[(old S0 w),(LK V),(LM V),(Cm V.B V.WS V.QS),(LJ V),(Lt V W),(TB z g4 cp5 s r t pc o tr pcn),(Md w3 V)]⟩ Tryd.func36 rfl (by kernel_rfl) (by kernel_rfl) hw19 ?_
  refine Au 25 0 [0,0] [[o0],[o0,o0],[o0,oF,o0,o0,o0,o0,o0,o0,o0,o0,o0,(a1 4),o0,oF,o0,o0,o0,o0,o0,o0,(a1 4),o0,o0,(ov (i6 ((V.nW:Int) - (V.st:Int)))),oF,o0],[o0]] [BF ((V.st:Int)<0),Qb V.mq,BF ((V.st:Int) > (V.nW:Int)),Qb V.mq,Wr ((V.nW:Int) - (V.st:Int)) ((V.nW:Int) - (V.st:Int)),BF ((5:Int) > ((V.nW:Int) - (V.st:Int)))] [(6,i6 0)] rfl ⟨bf,rfl,bf,rfl,BP,bf,Ae⟩ ?_
  refine Az [] [] (i6 0) Ae ?_
  intro w20 hw20
  refine⟨_,_,rfl,hw20, ?_⟩
  refine AZ 9 7 [1] [[o0],[o0,o0],[o0,o0,o0,(a1 4),o0,⟨.slc V.st V.nW true,none⟩,o0]] [Qb V.mq,(V.st:Int)=(V.st:Int),(V.nW:Int)=(V.nW:Int),V.st≤V.nW,V.nW≤V.cW,V.cW≠V.st,BM] [(7,i6 0),(TC V),(21,.slice (some ⟨g4,0,none⟩) 5 cp5)] rfl ⟨rfl,rfl,rfl,(by omega),(by omega),(by omega),rfl,Ae⟩ ?_
  refine QB V.n2 5 V.st 5 6 W ((((([s,r,t,pc,o]:List Int).set 0 2).set 2 tr).set 3 pcn).set 0 3) (some ⟨g4,0,none⟩) (fun x:Int=>[Value.int .u32 x]) 38 V.gW (0+Ee 1 V.st) V.nW V.cW (V.nW - V.st) (V.cW - V.st) 5 cp5 (TB z g4 cp5 s r t pc o tr pcn) (some 22) (by rw[Jy];omega) (XO (by omega)) (by omega) (by have hq9:W.length=V.nW:=hH.wl;omega) rfl (fun w' hw=>QA (fun _=>rfl) hw (by exact of_decide_eq_true rfl) (fun _ _=>trivial)) (fun n21 (hn22:w8.heap.size≤n21) => ?_)
  refine AZ 7 0 [] [[],[o0,o0]] [] [(6,i6 0)] rfl Ae ?_
  refine Az [] [] (i6 0) Ae ?_
  intro w23 hw23
  refine⟨_,_,rfl,hw23, ?_⟩
  refine AZ 3 0 [] [[o0,o0]] [] [(10,.bool true),(11,i6 0)] rfl Ae ?_
  refine Az [] [] (.tuple #[.bool true,i6 0]) Ae ?_
  intro w24 hw24
  have h4:=hw24.pick [1,2,3,4,5] rfl rfl
  (try dsimp only[Md,LK,LJ,TB,Lt,LM,TC]at h4)
  rw[show(if IQ V.q r=true then(2:Int)else 3)=3 from if_neg h10,show(!IQ V.q r)=true from by simp[h10]]
  exact⟨rfl,by rw[hw24.size];exact h4,Sat.back hw24 rfl (show w.heap.size≤n21 by omega) (List.mem_cons_self ..)⟩
 refine Xc [(GY V),(3,i6 tr),(4,.int .u32 pcn),(I8 w3),(Hw g4 cp5),(35,.func (.func 52) #[] #[pt V.cb]),(38,.int .u32 r)] (by(try dsimp only[Md,LK,LJ,Xp,Lt,LM,I8,Hw,GY]);simp only[hca1,hca2,hca3]) ?_
 refine Bq 6 ?_
 refine FU [] [] 52 #[.int .u32 r,pt V.cb] (some 39) (by as_aux_lemma=>kernel_rfl) rfl rfl Ae ?_
 intro w25 hw25
 refine(Zag w25 _ _ r (Yz hw25 (i:=3) rfl hH hca0) hca0 (by omega) (by omega)).mono ?_
 rintro e w26 ⟨rfl,hkw26⟩
 have hnw26:w3.heap.size+1≤w26.heap.size:=Ef hw25 hkw26
 have hs27:=hw25.keeps hkw26
 refine⟨_,_,rfl,hs27,.inr (fun c hc=>hs27.all c (by first | exact hc | exact DW (is:=[0,1,2,3,4,5,6,7]) rfl c hc)), ?_⟩
 refine CY [1,3,4,12,13,39] [(GY V),(3,i6 tr),(4,.int .u32 pcn),(I8 w3),(Hw g4 cp5),(39,.bool (IQ V.q r))] ?_
 by_cases h28:(IQ V.q r)=true
 ·refine Ci [(7,(ov (.bool false))),(8,o0)] [1,3,4,12,13,15] [Value.bool (!(IQ V.q r))=Value.bool false] (Dw 9 0) [(GY V),(3,i6 tr),(4,.int .u32 pcn),(I8 w3),(Hw g4 cp5),(15,.bool false)] ⟨by simp[h28],Ae⟩ ?_
  refine CE ?_
  refine NU 3 7 [] [[o0,o0,o0,o0,(ov (.int .u32 tr)),o0,(oi 0)]] [Value.int .u32 (IntKind.u32.wrap (tr))=Value.int .u32 (tr),(0:Int)=((0:Nat):Int),0<5,BM] [(GY V),(I8 w3),(Hw g4 cp5),(15,.bool false),(42,.slice (some ⟨g4,0,none⟩) 5 cp5),(QH g4 cp5),(45,.int .u32 tr),(46,.int .u32 pcn),(47,pt g4)] rfl ⟨congrArg (Value.int .u32) (Ru rfl (by omega) (by omega)),rfl,(by omega),rfl,Ae⟩ ?_
  refine G5 6 0 0 ([s,r,t,pc,o]:List Int) 2 (fun x:Int=>[Value.int .u32 x]) z 38 1 g4 5 cp5 (.int .u32 2) none (by exact of_decide_eq_true rfl) rfl ?_
  refine AZ 0 1 [] [[(oi 2)]] [(2:Int)=((2:Nat):Int),2<5,BM] [(GY V),(I8 w3),(Hw g4 cp5),(15,.bool false),(QH g4 cp5),(45,.int .u32 tr),(46,.int .u32 pcn),(48,.pointer (some ⟨g4,2,none⟩))] rfl ⟨rfl,(by omega),rfl,Ae⟩ ?_
  refine G5 6 2 0 (([s,r,t,pc,o]:List Int).set 0 2) tr (fun x:Int=>[Value.int .u32 x]) z 38 1 g4 5 cp5 (.int .u32 tr) none (by exact of_decide_eq_true rfl) rfl ?_
  refine AZ 0 1 [] [[(oi 3)]] [(3:Int)=((3:Nat):Int),3<5,BM] [(GY V),(I8 w3),(Hw g4 cp5),(15,.bool false),(46,.int .u32 pcn),(49,.pointer (some ⟨g4,3,none⟩))] rfl ⟨rfl,(by omega),rfl,Ae⟩ ?_
  refine G5 6 3 0 ((([s,r,t,pc,o]:List Int).set 0 2).set 2 tr) pcn (fun x:Int=>[Value.int .u32 x]) z 38 1 g4 5 cp5 (.int .u32 pcn) none (by exact of_decide_eq_true rfl) rfl ?_
  refine AZ 12 6 [0] [[],[o0],[o0,o0,o0,o0,(a1 7),o0]] [Qb w3.heap.size] [(53,.bool false),(54,pt V.mq),(57,Ac V.st),(58,.slice (some ⟨g4,0,none⟩) 5 cp5)] rfl ⟨rfl,Ae⟩ ?_
  refine l_call [] [] 21 #[pt V.mq,Ac V.st,.slice (some ⟨g4,0,none⟩) 5 cp5] (some 59) Ae ?_
  intro w29 hw29
  refine Bf (args:=[pt V.mq,Ac V.st,.slice (some ⟨g4,0,none⟩) 5 cp5]) 24 ⟨w,w26.heap.size,[(old S0 w),(LK V),(LM V),(Cm V.B V.WS V.QS),(LJ V),(Lt V W),(Tt z g4 cp5 s r t pc o tr pcn),(Md w3 V)]⟩ Tryd.func21 rfl (by kernel_rfl) (by kernel_rfl) hw29 ?_
  refine Au 6 4 [] [[o0],[o0,o0,o0,o0]] [] [(0,pt V.mq),(1,Ac V.st),(2,.slice (some ⟨g4,0,none⟩) 5 cp5),(8,pt V.mq),(9,Ac V.st),(11,i6 5)] rfl Ae ?_
  refine l_call [] [] 36 #[pt V.mq,Ac V.st,i6 5] (some 12) Ae ?_
  intro w30 hw30
  refine Bf (args:=[pt V.mq,Ac V.st,i6 5]) 35 ⟨w,w26.heap.size,[(old S0 w),(LK V),(LM V),(Cm V.B V.WS V.QS),(LJ V),(Lt V W),(Tt z g4 cp5 s r t pc o tr pcn),(Md w3 V)]⟩ Tryd.func36 rfl (by kernel_rfl) (by kernel_rfl) hw30 ?_
  refine Au 25 0 [0,0] [[o0],[o0,o0],[o0,oF,o0,o0,o0,o0,o0,o0,o0,o0,o0,(a1 4),o0,oF,o0,o0,o0,o0,o0,o0,(a1 4),o0,o0,(ov (i6 ((V.nW:Int) - (V.st:Int)))),oF,o0],[o0]] [BF ((V.st:Int)<0),Qb V.mq,BF ((V.st:Int) > (V.nW:Int)),Qb V.mq,Wr ((V.nW:Int) - (V.st:Int)) ((V.nW:Int) - (V.st:Int)),BF ((5:Int) > ((V.nW:Int) - (V.st:Int)))] [(6,i6 0)] rfl ⟨bf,rfl,bf,rfl,BP,bf,Ae⟩ ?_
  refine Az [] [] (i6 0) Ae ?_
  intro w31 hw31
  refine⟨_,_,rfl,hw31, ?_⟩
  refine AZ 9 7 [1] [[o0],[o0,o0],[o0,o0,o0,(a1 4),o0,⟨.slc V.st V.nW true,none⟩,o0]] [Qb V.mq,(V.st:Int)=(V.st:Int),(V.nW:Int)=(V.nW:Int),V.st≤V.nW,V.nW≤V.cW,V.cW≠V.st,BM] [(7,i6 0),(TC V),(21,.slice (some ⟨g4,0,none⟩) 5 cp5)] rfl ⟨rfl,rfl,rfl,(by omega),(by omega),(by omega),rfl,Ae⟩ ?_
  refine QB V.n2 5 V.st 5 6 W (((([s,r,t,pc,o]:List Int).set 0 2).set 2 tr).set 3 pcn) (some ⟨g4,0,none⟩) (fun x:Int=>[Value.int .u32 x]) 38 V.gW (0+Ee 1 V.st) V.nW V.cW (V.nW - V.st) (V.cW - V.st) 5 cp5 (Tt z g4 cp5 s r t pc o tr pcn) (some 22) (by rw[Jy];omega) (XO (by omega)) (by omega) (by have hq9:W.length=V.nW:=hH.wl;omega) rfl (fun w' hw=>QA (fun _=>rfl) hw (by exact of_decide_eq_true rfl) (fun _ _=>trivial)) (fun n32 (hn33:w26.heap.size≤n32) => ?_)
  refine AZ 7 0 [] [[],[o0,o0]] [] [(6,i6 0)] rfl Ae ?_
  refine Az [] [] (i6 0) Ae ?_
  intro w34 hw34
  refine⟨_,_,rfl,hw34, ?_⟩
  refine AZ 3 0 [] [[o0,o0]] [] [(10,.bool false),(11,i6 0)] rfl Ae ?_
  refine Az [] [] (.tuple #[.bool false,i6 0]) Ae ?_
  intro w35 hw35
  have h4:=hw35.pick [1,2,3,4,5] rfl rfl
  (try dsimp only[Md,LK,LJ,Tt,Lt,LM,TC]at h4)
  rw[show(if IQ V.q r=true then(2:Int)else 3)=2 from if_pos h28,show(!IQ V.q r)=false from by simp[h28]]
  exact⟨rfl,by rw[hw35.size];exact h4,Sat.back hw35 rfl (show w.heap.size≤n32 by omega) (List.mem_cons_self ..)⟩
 refine Ci [(7,(ov (.bool true))),(8,o0)] [1,3,4,12,13,15] [Value.bool (!(IQ V.q r))=Value.bool true] (Dw 9 0) [(GY V),(3,i6 tr),(4,.int .u32 pcn),(I8 w3),(Hw g4 cp5),(15,.bool true)] ⟨by simp[h28],Ae⟩ ?_
 refine CE ?_
 refine NU 3 7 [] [[o0,o0,o0,o0,(ov (.int .u32 tr)),o0,(oi 0)]] [Value.int .u32 (IntKind.u32.wrap (tr))=Value.int .u32 (tr),(0:Int)=((0:Nat):Int),0<5,BM] [(GY V),(I8 w3),(Hw g4 cp5),(15,.bool true),(42,.slice (some ⟨g4,0,none⟩) 5 cp5),(QH g4 cp5),(45,.int .u32 tr),(46,.int .u32 pcn),(47,pt g4)] rfl ⟨congrArg (Value.int .u32) (Ru rfl (by omega) (by omega)),rfl,(by omega),rfl,Ae⟩ ?_
 refine G5 6 0 0 ([s,r,t,pc,o]:List Int) 2 (fun x:Int=>[Value.int .u32 x]) z 38 1 g4 5 cp5 (.int .u32 2) none (by exact of_decide_eq_true rfl) rfl ?_
 refine AZ 0 1 [] [[(oi 2)]] [(2:Int)=((2:Nat):Int),2<5,BM] [(GY V),(I8 w3),(Hw g4 cp5),(15,.bool true),(QH g4 cp5),(45,.int .u32 tr),(46,.int .u32 pcn),(48,.pointer (some ⟨g4,2,none⟩))] rfl ⟨rfl,(by omega),rfl,Ae⟩ ?_
 refine G5 6 2 0 (([s,r,t,pc,o]:List Int).set 0 2) tr (fun x:Int=>[Value.int .u32 x]) z 38 1 g4 5 cp5 (.int .u32 tr) none (by exact of_decide_eq_true rfl) rfl ?_
 refine AZ 0 1 [] [[(oi 3)]] [(3:Int)=((3:Nat):Int),3<5,BM] [(GY V),(I8 w3),(Hw g4 cp5),(15,.bool true),(46,.int .u32 pcn),(49,.pointer (some ⟨g4,3,none⟩))] rfl ⟨rfl,(by omega),rfl,Ae⟩ ?_
 refine G5 6 3 0 ((([s,r,t,pc,o]:List Int).set 0 2).set 2 tr) pcn (fun x:Int=>[Value.int .u32 x]) z 38 1 g4 5 cp5 (.int .u32 pcn) none (by exact of_decide_eq_true rfl) rfl ?_
 refine AZ 9 2 [1] [[],[o0],[o0,(oi 0)]] [(0:Int)=((0:Nat):Int),0<5,BM] [(GY V),(I8 w3),(Hw g4 cp5),(15,.bool true),(52,pt g4)] rfl ⟨rfl,(by omega),rfl,Ae⟩ ?_
 refine G5 6 0 0 (((([s,r,t,pc,o]:List Int).set 0 2).set 2 tr).set 3 pcn) 3 (fun x:Int=>[Value.int .u32 x]) z 38 1 g4 5 cp5 (.int .u32 3) none (by exact of_decide_eq_true rfl) rfl ?_
 refine AZ 4 6 [] [[],[o0,o0,o0,o0,(a1 7),o0]] [Qb w3.heap.size] [(53,.bool true),(54,pt V.mq),(57,Ac V.st),(58,.slice (some ⟨g4,0,none⟩) 5 cp5)] rfl ⟨rfl,Ae⟩ ?_
 refine l_call [] [] 21 #[pt V.mq,Ac V.st,.slice (some ⟨g4,0,none⟩) 5 cp5] (some 59) Ae ?_
 intro w36 hw36
 refine Bf (args:=[pt V.mq,Ac V.st,.slice (some ⟨g4,0,none⟩) 5 cp5]) 24 ⟨w,w26.heap.size,[(old S0 w),(LK V),(LM V),(Cm V.B V.WS V.QS),(LJ V),(Lt V W),(TB z g4 cp5 s r t pc o tr pcn),(Md w3 V)]⟩ Tryd.func21 rfl (by kernel_rfl) (by kernel_rfl) hw36 ?_
 refine Au 6 4 [] [[o0],[o0,o0,o0,o0]] [] [(0,pt V.mq),(1,Ac V.st),(2,.slice (some ⟨g4,0,none⟩) 5 cp5),(8,pt V.mq),(9,Ac V.st),(11,i6 5)] rfl Ae ?_
 refine l_call [] [] 36 #[pt V.mq,Ac V.st,i6 5] (some 12) Ae ?_
 intro w37 hw37
 refine Bf (args:=[pt V.mq,Ac V.st,i6 5]) 35 ⟨w,w26.heap.size,[(old S0 w),(LK V),(LM V),(Cm V.B V.WS V.QS),(LJ V),(Lt V W),(TB z g4 cp5 s r t pc o tr pcn),(Md w3 V)]⟩ Tryd.func36 rfl (by kernel_rfl) (by kernel_rfl) hw37 ?_
 refine Au 25 0 [0,0] [[o0],[o0,o0],[o0,oF,o0,o0,o0,o0,o0,o0,o0,o0,o0,(a1 4),o0,oF,o0,o0,o0,o0,o0,o0,(a1 4),o0,o0,(ov (i6 ((V.nW:Int) - (V.st:Int)))),oF,o0],[o0]] [BF ((V.st:Int)<0),Qb V.mq,BF ((V.st:Int) > (V.nW:Int)),Qb V.mq,Wr ((V.nW:Int) - (V.st:Int)) ((V.nW:Int) - (V.st:Int)),BF ((5:Int) > ((V.nW:Int) - (V.st:Int)))] [(6,i6 0)] rfl ⟨bf,rfl,bf,rfl,BP,bf,Ae⟩ ?_
 refine Az [] [] (i6 0) Ae ?_
 intro w38 hw38
 refine⟨_,_,rfl,hw38, ?_⟩
 refine AZ 9 7 [1] [[o0],[o0,o0],[o0,o0,o0,(a1 4),o0,⟨.slc V.st V.nW true,none⟩,o0]] [Qb V.mq,(V.st:Int)=(V.st:Int),(V.nW:Int)=(V.nW:Int),V.st≤V.nW,V.nW≤V.cW,V.cW≠V.st,BM] [(7,i6 0),(TC V),(21,.slice (some ⟨g4,0,none⟩) 5 cp5)] rfl ⟨rfl,rfl,rfl,(by omega),(by omega),(by omega),rfl,Ae⟩ ?_
 refine QB V.n2 5 V.st 5 6 W ((((([s,r,t,pc,o]:List Int).set 0 2).set 2 tr).set 3 pcn).set 0 3) (some ⟨g4,0,none⟩) (fun x:Int=>[Value.int .u32 x]) 38 V.gW (0+Ee 1 V.st) V.nW V.cW (V.nW - V.st) (V.cW - V.st) 5 cp5 (TB z g4 cp5 s r t pc o tr pcn) (some 22) (by rw[Jy];omega) (XO (by omega)) (by omega) (by have hq9:W.length=V.nW:=hH.wl;omega) rfl (fun w' hw=>QA (fun _=>rfl) hw (by exact of_decide_eq_true rfl) (fun _ _=>trivial)) (fun n39 (hn40:w26.heap.size≤n39) => ?_)
 refine AZ 7 0 [] [[],[o0,o0]] [] [(6,i6 0)] rfl Ae ?_
 refine Az [] [] (i6 0) Ae ?_
 intro w41 hw41
 refine⟨_,_,rfl,hw41, ?_⟩
 refine AZ 3 0 [] [[o0,o0]] [] [(10,.bool true),(11,i6 0)] rfl Ae ?_
 refine Az [] [] (.tuple #[.bool true,i6 0]) Ae ?_
 intro w42 hw42
 have h4:=hw42.pick [1,2,3,4,5] rfl rfl
 (try dsimp only[Md,LK,LJ,TB,Lt,LM,TC]at h4)
 rw[show(if IQ V.q r=true then(2:Int)else 3)=3 from if_neg h28,show(!IQ V.q r)=true from by simp[h28]]
 exact⟨rfl,by rw[hw42.size];exact h4,Sat.back hw42 rfl (show w.heap.size≤n39 by omega) (List.mem_cons_self ..)⟩
section
variable (z:Nat)(V:HV)(f:Nat→Int)(cp6:Nat)(W:List Int)
abbrev SX:=bk (z+1) #[i6 V.lk,Ac V.sv,Ac V.st,i6 V.rt,.slice V.ta V.tn V.tc,.int .u32 V.q.Entry,.int .u32 V.q.A7,.int .u32 V.q.AV,.func (.func V.fa) #[] V.ca,.func (.func V.fb) #[] V.ca] 81
abbrev U5:=bk (z+2) #[i6 V.lk,Ac V.sv,Ac V.st,i6 V.rt,.slice V.ta V.tn V.tc,.int .u32 V.q.Entry,.int .u32 V.q.A7,.int .u32 V.q.AV,.func (.func V.fa) #[] V.ca,.func (.func V.fb) #[] V.ca] 81
abbrev q1yn_2:=bk (z+1) #[i6 0,i6 0,i6 0,i6 0,.slice none 0 0,.int .u32 0,.int .u32 0,.int .u32 0,.nilFunc,.nilFunc] 81
abbrev NH:Ch:= .blk V.dp (.cells #[i6 V.fr,.slice (some ⟨V.gV,0,none⟩) V.nP V.cV] 113 (0,0)) true
abbrev N7:Ch:= .blk V.mq (.cells #[.slice (some ⟨V.gW,0,none⟩) V.nW V.cW] 106 (0,0)) true
abbrev Xi:=bk (z+3) #[.int .u32 (f 16)] 38
abbrev Xy:=BV (z+4) 38 1 (fun x:Int=>[Value.int .u32 x]) (.slice (some ⟨z+4,0,none⟩) (16+1) cp6) (([(f 0),(f 1),(f 2),(f 3),(f 4),(f 5),(f 6),(f 7),(f 8),(f 9),(f 10),(f 11),(f 12),(f 13),(f 14),(f 15)]:List Int)++([(f 16)]:List Int))
abbrev PD:=BV V.n2 38 1 (fun x:Int=>[Value.int .u32 x]) (.slice (some ⟨V.gW,0,none⟩) V.nW V.cW) W
abbrev Jg:=BV V.n 81 10 Iw.cells (.slice (some ⟨V.gV,0,none⟩) V.nP V.cV) V.WS
end
theorem Wi(w w0:World)(V:HV)(W:List Int)(hO:Sat ⟨w0,w.heap.size,KU V W⟩ w)(S0:Nat→Prop)(hS0:S0=JY (KU V W))(hn1:V.n≤w.heap.size)(hn2:V.n2≤w.heap.size)(hH:Ko V W)(f:Nat→Int):Calls Tryd.prog 11 #[.pointer (some ⟨V.dp,0,none⟩),.pointer (some ⟨V.mq,0,none⟩),.int .i64 (V.p:Int),.agg (I5 f)] w fun e w'=>e = .returned (.int .i64 0)∧Sat ⟨w,w'.heap.size,KU V (Ie W V.sv (LH f))⟩ w'∧Ce S0 w w':=by
 obtain⟨z,hz⟩:∃ z,z=w.heap.size:=⟨_,rfl⟩
 refine Bf (args:=[pt V.dp,pt V.mq,Ac V.p,.agg (I5 f)]) 32 ⟨w,z,[(old S0 w),(NH V),(Jg V),(Cm V.B V.WS V.QS),(N7 V),(PD V W)]⟩ Tryd.func11 rfl (by kernel_rfl) (by kernel_rfl) (hS0 ▸ hz ▸ O4 hO IB) ?_
 have hwl:=hH.wl;have hwn:=hH.wn;have hfr:=hH.fr;have hlp:=hH.lp;have hls:=hH.ls;have hcw:=hH.cw;have hsn:=hH.sn;have hss:=hH.ss;have hq1:=hH.rg.en;have hq2:=hH.rg.ac;have hq3:=hH.rg.re;have hq4:=hH.rg.ou
 refine Di [0,1,2,3] [(0,pt V.dp),(1,pt V.mq),(2,Ac V.p),(3,.agg (I5 f))] ?_
 refine q_c 6 3 [] [[o0,o0],[o0,o0,o0]] [] [(1,pt V.mq),(7,pt z),(12,pt V.dp),(13,pt V.mq),(14,Ac V.p)] ⟨w,z+1,[(old S0 w),(NH V),(Jg V),(Cm V.B V.WS V.QS),(N7 V),(PD V W),(bk z (I5 f) 41)]⟩ rfl Ae ?_
 refine l_call [] [] 24 #[pt V.dp,pt V.mq,Ac V.p,.bool false] (some 15) Ae ?_
 intro w1 hw1
 refine Bf (args:=[pt V.dp,pt V.mq,Ac V.p,.bool false]) 50 ⟨w,z+1,[(old S0 w),(NH V),(Jg V),(Cm V.B V.WS V.QS),(N7 V),(PD V W),(bk z (I5 f) 41)]⟩ Tryd.func24 rfl (by kernel_rfl) (by kernel_rfl) hw1 ?_
 refine q_c 12 0 [0] [[o0,o0],[o0,o0,o0,o0,o0,o0,o0]] [] [(0,pt V.dp),(1,pt V.mq),(2,Ac V.p),(3,.bool false),(8,pt (z+1)),(10,.bool false)] ⟨w,z+2,[(old S0 w),(NH V),(Jg V),(Cm V.B V.WS V.QS),(N7 V),(PD V W),(bk z (I5 f) 41),(q1yn_2 z)]⟩ rfl Ae ?_
 refine DZ 11 [0,1,2,3,4,5,6,7] [(old S0 w),(NH V),(Jg V),(Cm V.B V.WS V.QS),(N7 V),(PD V W),(bk z (I5 f) 41),(q1yn_2 z)] rfl rfl ?_
 refine Ci [(0,o0),(2,o0),(3,o0),(4,o0),(5,(a1 1))] [0,2,3,8,19,24] [Qb V.dp] [true,false,true,true,true,true,false,false,false,false,false] [(0,pt V.dp),(2,Ac V.p),(3,.bool false),(8,pt (z+1)),(19,pt V.mq),(24,i6 V.fr)] ⟨rfl,Ae⟩ ?_
 refine Bq 1 ?_
 refine FU [] [] 37 #[pt V.mq] (some 20) (by as_aux_lemma=>kernel_rfl) rfl rfl Ae ?_
 intro w2 hw2
 refine Bf (args:=[pt V.mq]) 11 ⟨w,z+2,[(old S0 w),(NH V),(Jg V),(Cm V.B V.WS V.QS),(N7 V),(PD V W),(bk z (I5 f) 41),(q1yn_2 z)]⟩ Tryd.func37 rfl (by kernel_rfl) (by kernel_rfl) hw2 ?_
 refine Au 17 0 [0] [[o0],[o0,o0],[o0,o0,o0,(a1 4),o0,(ov (i6 ((V.nW / 16:Nat):Int))),o0]] [Qb V.mq,Wr (Int.tdiv ((V.nW:Int)) 16) (((V.nW / 16:Nat):Int))] [(2,i6 ((V.nW / 16:Nat):Int))] rfl ⟨rfl,congrArg (Value.int .i64) (Me (by omega) (by omega) (by omega)),Ae⟩ ?_
 refine Az [] [] (i6 ((V.nW / 16:Nat):Int)) Ae ?_
 intro w3 hw3
 have hs4:=hw3
 refine⟨_,_,rfl,hs4,.inr (fun c hc=>hs4.all c (by first | exact hc | exact DW (is:=[0,1,2,3,4,5,6,7]) rfl c hc)), ?_⟩
 refine CY [0,2,3,8,24,20] [(0,pt V.dp),(2,Ac V.p),(3,.bool false),(8,pt (z+1)),(24,i6 V.fr),(20,i6 ((V.nW / 16:Nat):Int))] ?_
 refine Ci [(6,oF),(7,o0),(8,o0),(9,o0),(10,o0)] [0,2,8,18] [NF ((V.nW / 16:Nat):Int) V.fr] (Dw 11 0) [(0,pt V.dp),(2,Ac V.p),(8,pt (z+1)),(18,.bool false)] ⟨nf,Ae⟩ ?_
 refine CE ?_
 refine q_o 15 0 [0,0] [[o0,oF,o0,o0,o0,o0,o0,(a1 1),o0,oF,o0,o0],[o0,o0,o0,(a1 1),o0,(oi V.p),(oa [.via 2 (i6 V.lk),.via 2 (Ac V.sv),.via 2 (Ac V.st),.via 2 (i6 V.rt),.via 2 (.slice V.ta V.tn V.tc),.via 2 (.int .u32 V.q.Entry),.via 2 (.int .u32 V.q.A7),.via 2 (.int .u32 V.q.AV),.via 2 (.func (.func V.fa) #[] V.ca),.via 2 (.func (.func V.fb) #[] V.ca)]),(an 10 7),o0]] [BF ((V.p:Int)<0),Qb V.dp,BF ((V.p:Int)≥(V.nP:Int)),Qb V.dp,(V.p:Int)=(V.p:Int),V.p<V.nP,BM,∀ w',Ch.holds (Jg V) w'→w'.cell? ⟨V.gV,0+Ee 10 V.p,none⟩=some (i6 V.lk),∀ w',Ch.holds (Jg V) w'→w'.cell? ⟨V.gV,0+Ee 10 V.p+1,none⟩=some (Ac V.sv),∀ w',Ch.holds (Jg V) w'→w'.cell? ⟨V.gV,0+Ee 10 V.p+2,none⟩=some (Ac V.st),∀ w',Ch.holds (Jg V) w'→w'.cell? ⟨V.gV,0+Ee 10 V.p+3,none⟩=some (i6 V.rt),∀ w',Ch.holds (Jg V) w'→w'.cell? ⟨V.gV,0+Ee 10 V.p+4,none⟩=some (.slice V.ta V.tn V.tc),∀ w',Ch.holds (Jg V) w'→w'.cell? ⟨V.gV,0+Ee 10 V.p+5,none⟩=some (.int .u32 V.q.Entry),∀ w',Ch.holds (Jg V) w'→w'.cell? ⟨V.gV,0+Ee 10 V.p+6,none⟩=some (.int .u32 V.q.A7),∀ w',Ch.holds (Jg V) w'→w'.cell? ⟨V.gV,0+Ee 10 V.p+7,none⟩=some (.int .u32 V.q.AV),∀ w',Ch.holds (Jg V) w'→w'.cell? ⟨V.gV,0+Ee 10 V.p+8,none⟩=some (.func (.func V.fa) #[] V.ca),∀ w',Ch.holds (Jg V) w'→w'.cell? ⟨V.gV,0+Ee 10 V.p+9,none⟩=some (.func (.func V.fb) #[] V.ca),Qb (z+1),Qb (z+1),Qb (z+1),Qb (z+1),Qb (z+1),Qb (z+1),Qb (z+1),Qb (z+1),Qb (z+1),Qb (z+1)] [(8,pt (z+1)),(9,i6 0)] ⟨w,z+2,[(old S0 w),(NH V),(Jg V),(Cm V.B V.WS V.QS),(N7 V),(PD V W),(bk z (I5 f) 41),(SX z V)]⟩ rfl ⟨bf,rfl,bf,rfl,rfl,(by omega),rfl,C9 (sz:=10) (j:=V.p) (k:=0) (fun _=>rfl) hH.lp (by rw[hH.y];rfl),C9 (sz:=10) (j:=V.p) (k:=1) (fun _=>rfl) hH.lp (by rw[hH.y];rfl),C9 (sz:=10) (j:=V.p) (k:=2) (fun _=>rfl) hH.lp (by rw[hH.y];rfl),C9 (sz:=10) (j:=V.p) (k:=3) (fun _=>rfl) hH.lp (by rw[hH.y];rfl),C9 (sz:=10) (j:=V.p) (k:=4) (fun _=>rfl) hH.lp (by rw[hH.y];rfl),C9 (sz:=10) (j:=V.p) (k:=5) (fun _=>rfl) hH.lp (by rw[hH.y];rfl),C9 (sz:=10) (j:=V.p) (k:=6) (fun _=>rfl) hH.lp (by rw[hH.y];rfl),C9 (sz:=10) (j:=V.p) (k:=7) (fun _=>rfl) hH.lp (by rw[hH.y];rfl),C9 (sz:=10) (j:=V.p) (k:=8) (fun _=>rfl) hH.lp (by rw[hH.y];rfl),C9 (sz:=10) (j:=V.p) (k:=9) (fun _=>rfl) hH.lp (by rw[hH.y];rfl),rfl,rfl,rfl,rfl,rfl,rfl,rfl,rfl,rfl,rfl,Ae⟩ ?_
 refine Az [.at 7,.at 7,.at 7,.at 7,.at 7,.at 7,.at 7,.at 7,.at 7,.at 7] [Qb (z+1),Qb (z+1),Qb (z+1),Qb (z+1),Qb (z+1),Qb (z+1),Qb (z+1),Qb (z+1),Qb (z+1),Qb (z+1)] (.tuple #[.agg #[i6 V.lk,Ac V.sv,Ac V.st,i6 V.rt,.slice V.ta V.tn V.tc,.int .u32 V.q.Entry,.int .u32 V.q.A7,.int .u32 V.q.AV,.func (.func V.fa) #[] V.ca,.func (.func V.fb) #[] V.ca],i6 0]) ⟨rfl,rfl,rfl,rfl,rfl,rfl,rfl,rfl,rfl,rfl,Ae⟩ ?_
 intro w5 hw5
 refine⟨_,_,rfl,hw5, ?_⟩
 refine EI 11 0 [0] [[o0,o0,o0,o0,(an 10 8),o0],[o0,o0]] [Qb (z+2),Qb (z+2),Qb (z+2),Qb (z+2),Qb (z+2),Qb (z+2),Qb (z+2),Qb (z+2),Qb (z+2),Qb (z+2)] [(1,pt V.mq),(7,pt z),(9,pt (z+2)),(10,i6 0),(19,.bool false)] ⟨w,z+3,[(old S0 w),(NH V),(Jg V),(Cm V.B V.WS V.QS),(N7 V),(PD V W),(bk z (I5 f) 41),(SX z V),(U5 z V)]⟩ rfl ⟨rfl,rfl,rfl,rfl,rfl,rfl,rfl,rfl,rfl,rfl,Ae⟩ ?_
 refine DZ 10 [0,1,2,3,4,6,7,8] [(old S0 w),(NH V),(Jg V),(Cm V.B V.WS V.QS),(N7 V),(bk z (I5 f) 41),(SX z V),(U5 z V)] rfl rfl ?_
 refine Ci [(0,o0),(1,o0),(2,o0),(3,(a1 7)),(4,o0),(5,o0),(6,o0),(7,(a1 5))] [21,24,26,28] [Qb (z+2),Qb z] (Dw 8 4) [(21,pt V.mq),(24,Ac V.sv),(26,.slice (some ⟨z,0,none⟩) 16 16),(28,.int .u32 (f 16))] ⟨rfl,rfl,Ae⟩ ?_
 refine Bq 8 ?_
 refine BC o0 [21,24,26,29] [] [(21,pt V.mq),(24,Ac V.sv),(26,.slice (some ⟨z,0,none⟩) 16 16),(29,.slice (some ⟨z+3,0,none⟩) 1 1)] ⟨w,z+4,[(old S0 w),(NH V),(Jg V),(Cm V.B V.WS V.QS),(N7 V),(PD V W),(bk z (I5 f) 41),(SX z V),(U5 z V),(Xi z f)]⟩ [0,1,2,3,4,6,7,8] Ae (.inr rfl) ?_
 refine Bq 9 ?_
 refine wo_appD 6 9 ([(f 0),(f 1),(f 2),(f 3),(f 4),(f 5),(f 6),(f 7),(f 8),(f 9),(f 10),(f 11),(f 12),(f 13),(f 14),(f 15)]:List Int) ([(f 16)]:List Int) (fun x:Int=>[Value.int .u32 x]) 38 1 4 z 16 16 (z+3) 1 1 (I5 f) #[.int .u32 (f 16)] 41 38 (0,0) (0,0) true true (some 30) [0,1,2,3,4,6,7,8] rfl rfl (.inr rfl) (fun cp6 n7 (hn8:z+4≤n7) => ?_)
 refine CY [21,24,30] [(21,pt V.mq),(24,Ac V.sv),(30,.slice (some ⟨z+4,0,none⟩) (16+1) cp6)] ?_
 refine Bq 10 ?_
 refine FU [] [] 21 #[pt V.mq,Ac V.sv,.slice (some ⟨z+4,0,none⟩) (16+1) cp6] (some 31) (by as_aux_lemma=>kernel_rfl) rfl rfl Ae ?_
 intro w9 hw9
 refine Bf (args:=[pt V.mq,Ac V.sv,.slice (some ⟨z+4,0,none⟩) (16+1) cp6]) 24 ⟨w,n7,[(old S0 w),(NH V),(Jg V),(Cm V.B V.WS V.QS),(N7 V),(PD V W),(bk z (I5 f) 41),(SX z V),(U5 z V),(Xi z f),(Xy z f cp6)]⟩ Tryd.func21 rfl (by kernel_rfl) (by kernel_rfl) hw9 ?_
 refine Au 6 4 [] [[o0],[o0,o0,o0,o0]] [] [(0,pt V.mq),(1,Ac V.sv),(2,.slice (some ⟨z+4,0,none⟩) (16+1) cp6),(8,pt V.mq),(9,Ac V.sv),(11,i6 (((16+1):Nat):Int))] rfl Ae ?_
 refine l_call [] [] 36 #[pt V.mq,Ac V.sv,i6 (((16+1):Nat):Int)] (some 12) Ae ?_
 intro w10 hw10
 refine Bf (args:=[pt V.mq,Ac V.sv,i6 (((16+1):Nat):Int)]) 35 ⟨w,n7,[(old S0 w),(NH V),(Jg V),(Cm V.B V.WS V.QS),(N7 V),(PD V W),(bk z (I5 f) 41),(SX z V),(U5 z V),(Xi z f),(Xy z f cp6)]⟩ Tryd.func36 rfl (by kernel_rfl) (by kernel_rfl) hw10 ?_
 refine Au 25 0 [0,0] [[o0],[o0,o0],[o0,oF,o0,o0,oF,o0,o0,o0,o0,o0,o0,(a1 4),o0,oF,o0,o0,o0,o0,o0,o0,(a1 4),o0,o0,(ov (i6 ((V.nW:Int) - (V.sv:Int)))),oF,o0],[o0]] [BF ((V.sv:Int)<0),BF (((((16+1):Nat):Int):Int)<0),Qb V.mq,BF ((V.sv:Int) > (V.nW:Int)),Qb V.mq,Wr ((V.nW:Int) - (V.sv:Int)) ((V.nW:Int) - (V.sv:Int)),BF (((((16+1):Nat):Int):Int) > ((V.nW:Int) - (V.sv:Int)))] [(6,i6 0)] rfl ⟨bf,bf,rfl,bf,rfl,BP,bf,Ae⟩ ?_
 refine Az [] [] (i6 0) Ae ?_
 intro w11 hw11
 refine⟨_,_,rfl,hw11, ?_⟩
 refine AZ 9 7 [1] [[o0],[o0,o0],[o0,o0,o0,(a1 4),o0,⟨.slc V.sv V.nW true,none⟩,o0]] [Qb V.mq,(V.sv:Int)=(V.sv:Int),(V.nW:Int)=(V.nW:Int),V.sv≤V.nW,V.nW≤V.cW,V.cW≠V.sv,BM] [(7,i6 0),(20,.slice (some ⟨V.gW,0+Ee 1 V.sv,none⟩) (V.nW - V.sv) (V.cW - V.sv)),(21,.slice (some ⟨z+4,0,none⟩) (16+1) cp6)] rfl ⟨rfl,rfl,rfl,(by omega),(by omega),(by omega),rfl,Ae⟩ ?_
 refine QB V.n2 5 V.sv (16+1) 10 W (([(f 0),(f 1),(f 2),(f 3),(f 4),(f 5),(f 6),(f 7),(f 8),(f 9),(f 10),(f 11),(f 12),(f 13),(f 14),(f 15)]:List Int)++([(f 16)]:List Int)) (some ⟨z+4,0,none⟩) (fun x:Int=>[Value.int .u32 x]) 38 V.gW (0+Ee 1 V.sv) V.nW V.cW (V.nW - V.sv) (V.cW - V.sv) (16+1) cp6 (Xy z f cp6) (some 22) (by rw[Jy];omega) (XO (by omega)) (by omega) (by have hq9:W.length=V.nW:=hH.wl;omega) rfl (fun w' hw=>QA (fun _=>rfl) hw (by exact of_decide_eq_true rfl) (fun _ _=>trivial)) (fun n12 (hn13:n7≤n12) => ?_)
 refine AZ 7 0 [] [[],[o0,o0]] [] [(6,i6 0)] rfl Ae ?_
 refine Az [] [] (i6 0) Ae ?_
 intro w14 hw14
 refine⟨_,_,rfl,hw14,.inl rfl, ?_⟩
 refine CY [31] [(31,i6 0)] ?_
 refine DX 12 [0,1,2,3,4,5,6,7,8,9,10] [(old S0 w),(NH V),(Jg V),(Cm V.B V.WS V.QS),(N7 V),(BV V.n2 38 1 (fun x:Int=>[Value.int .u32 x]) (.slice (some ⟨V.gW,0,none⟩) V.nW V.cW) (Ie W V.sv ((([(f 0),(f 1),(f 2),(f 3),(f 4),(f 5),(f 6),(f 7),(f 8),(f 9),(f 10),(f 11),(f 12),(f 13),(f 14),(f 15)]:List Int)++([(f 16)]:List Int)).take (16+1)))),(bk z (I5 f) 41),(SX z V),(U5 z V),(Xi z f),(Xy z f cp6)] rfl rfl ?_
 refine Ci [(11,o0)] [8] [] (Dw 12 0) [(8,i6 0)] Ae ?_
 refine CE ?_
 refine BI [8] [(8,i6 0)] ?_
 refine Gy <| Iu <| Az [] [] (i6 0) Ae ?_
 intro w15 hw15
 have h4:=hw15.pick [1,2,3,4,5] rfl rfl
 (try dsimp only[SX,U5,NH,N7,Xi,Xy,Jg]at h4)
 exact⟨rfl,by rw[hw15.size];exact h4,Sat.back hw15 rfl (show w.heap.size≤n12 by omega) (List.mem_cons_self ..)⟩
section
variable (z:Nat)(V:HV)(w3:World)(W:List Int)(r:Int)(g4 cp5:Nat)(s t:Int)(pc o:Int)
abbrev Vr:=bk z #[.int .u32 0,.int .u32 0,.int .u32 0,.int .u32 0,.int .u32 0,.int .u32 0,.int .u32 0,.int .u32 0,.int .u32 0,.int .u32 0,.int .u32 0,.int .u32 0,.int .u32 0,.int .u32 0,.int .u32 0,.int .u32 0,.int .u32 V.q.Entry] 41
abbrev JX:=bk z #[.int .u32 0,.int .u32 0,.int .u32 0,.int .u32 0,.int .u32 0,.int .u32 0,.int .u32 0,.int .u32 0,.int .u32 0,.int .u32 0,.int .u32 0,.int .u32 0,.int .u32 0,.int .u32 0,.int .u32 0,.int .u32 0,.int .u32 0] 41
abbrev Iq:Ch:= .blk w3.heap.size (.cells (Iw.arr ⟨V.lk,V.sv,V.st,V.rt,.slice V.ta V.tn V.tc,V.q.Entry,V.q.A7,V.q.AV,V.fa,V.fb,V.ca⟩) 81 (0,0)) true
abbrev Hz:Ch:= .blk V.dp (.cells #[i6 V.fr,.slice (some ⟨V.gV,0,none⟩) V.nP V.cV] 113 (0,0)) true
abbrev H7:Ch:= .blk V.mq (.cells #[.slice (some ⟨V.gW,0,none⟩) V.nW V.cW] 106 (0,0)) true
abbrev Xe:=BV z 38 1 (fun x:Int=>[Value.int .u32 x]) (.slice (some ⟨w3.heap.size+1,0,none⟩) 17 17) ((List.range 17).map fun k=>gd (W.set (V.st+0) 0) (V.sv+k))
abbrev WX:=BV z 38 1 (fun x:Int=>[Value.int .u32 x]) (.slice (some ⟨w3.heap.size+1,0,none⟩) 17 17) ((List.range 17).map fun k=>gd W (V.sv+k))
abbrev Qd:=BV V.n2 38 1 (fun x:Int=>[Value.int .u32 x]) (.slice (some ⟨V.gW,0,none⟩) V.nW V.cW) ((W.set (V.st+0) 0).set (V.st+1) (r+1))
abbrev H6:=BV (z+1) 38 1 (fun x:Int=>[Value.int .u32 x]) (.slice (some ⟨g4,0,none⟩) 5 cp5) ([s,r,t,pc,o]:List Int)
abbrev Rq:=BV V.n2 38 1 (fun x:Int=>[Value.int .u32 x]) (.slice (some ⟨V.gW,0,none⟩) V.nW V.cW) (W.set (V.st+0) 0)
abbrev MQ:=BV V.n2 38 1 (fun x:Int=>[Value.int .u32 x]) (.slice (some ⟨V.gW,0,none⟩) V.nW V.cW) W
abbrev G8:=BV V.n 81 10 Iw.cells (.slice (some ⟨V.gV,0,none⟩) V.nP V.cV) V.WS
abbrev PT:D7:=(49,.agg #[.int .u32 0,.int .u32 0,.int .u32 0,.int .u32 0,.int .u32 0,.int .u32 0,.int .u32 0,.int .u32 0,.int .u32 0,.int .u32 0,.int .u32 0,.int .u32 0,.int .u32 0,.int .u32 0,.int .u32 0,.int .u32 0,.int .u32 V.q.Entry])
abbrev Pn:=(9,pt w3.heap.size)
abbrev RX:=(1,pt V.mq)
abbrev PO:=(0,pt V.mq)
end
theorem WB(w w0:World)(V:HV)(W:List Int)(hO:Sat ⟨w0,w.heap.size,KU V W⟩ w)(S0:Nat→Prop)(hS0:S0=JY (KU V W))(hn1:V.n≤w.heap.size)(hn2:V.n2≤w.heap.size)(hH:Ko V W)(s r t pc o:Int)(h5:S5 W V.st s r t pc o)(hR:Rg V.q s r t pc o):Calls Tryd.prog 10 #[.pointer (some ⟨V.dp,0,none⟩),.pointer (some ⟨V.mq,0,none⟩),.int .i64 (V.p:Int)] w fun e w'=>∃ (f:Nat→Int) (dn:Int) (W':List Int),e = .returned (.tuple #[.agg (I5 f),.int .i64 dn,.int .i64 0])∧((s=2∧f=NV V.q.Entry∧dn=V.q.Dx∧W'=(W.set V.st 0).set (V.st+1) (r+1))∨(¬ s=2∧f=(fun k=>gd W' (V.sv+k))∧dn=0∧W'=if s=1 then W.set V.st 0 else W))∧Sat ⟨w,w'.heap.size,KU V W'⟩ w'∧Ce S0 w w':=by
 obtain⟨z,hz⟩:∃ z,z=w.heap.size:=⟨_,rfl⟩
 refine Bf (args:=[pt V.dp,pt V.mq,Ac V.p]) 82 ⟨w,z,[(old S0 w),(Hz V),(G8 V),(Cm V.B V.WS V.QS),(H7 V),(MQ V W)]⟩ Tryd.func10 rfl (by kernel_rfl) (by kernel_rfl) (hS0 ▸ hz ▸ O4 hO IB) ?_
 have hwl:=hH.wl;have hwn:=hH.wn;have hfr:=hH.fr;have hlp:=hH.lp;have hls:=hH.ls;have hcw:=hH.cw;have hsn:=hH.sn;have hss:=hH.ss;have hq1:=hH.rg.en;have hq2:=hH.rg.ac;have hq3:=hH.rg.re;have hq4:=hH.rg.ou;have hs1:=hR.hs;have hs2:=hR.hr;have hs3:=hR.ht;have hs4:=hR.tp;have hs5:=hR.hpc;have hs6:=hR.ho
 refine Di [0,1,2] [(0,pt V.dp),(RX V),(2,Ac V.p)] ?_
 refine q_c 6 3 [] [[o0,o0,o0],[o0,o0,o0]] [] [(RX V),(6,pt z),(15,pt V.dp),(16,pt V.mq),(17,Ac V.p)] ⟨w,z+1,[(old S0 w),(Hz V),(G8 V),(Cm V.B V.WS V.QS),(H7 V),(MQ V W),(JX z)]⟩ rfl Ae ?_
 refine l_call [] [] 20 #[pt V.dp,pt V.mq,Ac V.p,.bool false] (some 18) Ae ?_
 intro w1 hw1
 have hq2:=hw1.pick [1,2,3,4,5] rfl rfl
 refine(SN w1 w V W (by rw[hw1.size];exact hq2) _ rfl (by have:=hw1.size;simp only[]at this;omega) (by have:=hw1.size;simp only[]at this;omega) hH s r t pc o h5 hR).mono ?_
 rintro e w3 ⟨g4,cp5,rfl,hgw3,w6,hSw3,hkw3⟩
 have hnw3:z+1≤w3.heap.size:=Ef hw1 hkw3
 rw[show w1.heap.size=z+1 from hw1.size]at hSw3 hgw3
 refine⟨_,_,rfl,hw1.turn [0,6] [1,2,3,4,5] rfl rfl rfl (by decide) (IB (V:=V)) hkw3 (fun c hc=>⟨hSw3.all c hc,hSw3.Kq c hc,fun b hb=>⟨hSw3.bnd c hc b hb,ZE (m:=0) (fun d hd b hb=>by rw[List.mem_singleton.1 hd]at hb;rw[show w1.heap.size=z+1 from hw1.size];exact P5 (hSw3.all _ (List.mem_append_right _ (List.mem_singleton.2 rfl))) b hb) c hc b hb⟩⟩) hSw3.Jq, ?_⟩
 refine EI 17 0 [0] [[o0,o0,o0,o0,o0,(an 10 8),o0,o0],[o0,o0],[o0,(oi 0),(oa [.via 7 (.int .u32 s)])]] [Qb w3.heap.size,Qb w3.heap.size,Qb w3.heap.size,Qb w3.heap.size,Qb w3.heap.size,Qb w3.heap.size,Qb w3.heap.size,Qb w3.heap.size,Qb w3.heap.size,Qb w3.heap.size,(0:Int)=((0:Nat):Int),0<5,BM,∀ w',Ch.holds (H6 z r g4 cp5 s t pc o) w'→w'.cell? ⟨g4,0,none⟩=some (.int .u32 s)] [(RX V),(6,pt z),(Pn w3),(10,.slice (some ⟨g4,0,none⟩) 5 cp5),(28,.int .u32 s)] ⟨w,w3.heap.size+1,[(old S0 w),(JX z),(Hz V),(G8 V),(Cm V.B V.WS V.QS),(H7 V),(MQ V W),(H6 z r g4 cp5 s t pc o),(Iq V w3)]⟩ rfl ⟨rfl,rfl,rfl,rfl,rfl,rfl,rfl,rfl,rfl,rfl,rfl,(by omega),rfl,C9 (sz:=1) (j:=0) (k:=0) (fun _=>rfl) (by exact of_decide_eq_true rfl) rfl,Ae⟩ ?_
 by_cases h7:(s:Int)=2
 ·have hag:=hR.ag h7
  refine Au 6 5 [1] [[oT,o0],[o0,o0,o0,(a1 8),(ov (i6 ((V.st+0:Nat):Int)))]] [ET s 2,Qb w3.heap.size,Wr ((V.st:Int)+0) (((V.st+0:Nat):Int))] [(RX V),(6,pt z),(Pn w3),(10,.slice (some ⟨g4,0,none⟩) 5 cp5),(31,pt V.mq),(35,i6 ((V.st+0:Nat):Int))] rfl ⟨et,rfl,BP,Ae⟩ ?_
  refine l_call [] [] 22 #[pt V.mq,i6 ((V.st+0:Nat):Int),.int .u32 0] (some 36) Ae ?_
  intro w8 hw8
  refine Bf (args:=[pt V.mq,i6 ((V.st+0:Nat):Int),.int .u32 0]) 21 ⟨w,w3.heap.size+1,[(old S0 w),(JX z),(Hz V),(G8 V),(Cm V.B V.WS V.QS),(H7 V),(MQ V W),(H6 z r g4 cp5 s t pc o),(Iq V w3)]⟩ Tryd.func22 rfl (by kernel_rfl) (by kernel_rfl) hw8 ?_
  refine Au 6 2 [] [[o0],[o0,o0]] [] [(PO V),(1,i6 ((V.st+0:Nat):Int)),(2,.int .u32 0),(8,pt V.mq),(9,i6 ((V.st+0:Nat):Int))] rfl Ae ?_
  refine l_call [] [] 36 #[pt V.mq,i6 ((V.st+0:Nat):Int),i6 1] (some 10) Ae ?_
  intro w9 hw9
  refine Bf (args:=[pt V.mq,i6 ((V.st+0:Nat):Int),i6 1]) 35 ⟨w,w3.heap.size+1,[(old S0 w),(JX z),(Hz V),(G8 V),(Cm V.B V.WS V.QS),(H7 V),(MQ V W),(H6 z r g4 cp5 s t pc o),(Iq V w3)]⟩ Tryd.func36 rfl (by kernel_rfl) (by kernel_rfl) hw9 ?_
  refine Au 25 0 [0,0] [[o0],[o0,o0],[o0,oF,o0,o0,o0,o0,o0,o0,o0,o0,o0,(a1 5),o0,oF,o0,o0,o0,o0,o0,o0,(a1 5),o0,o0,(ov (i6 ((V.nW:Int) - ((V.st+0:Nat):Int)))),oF,o0],[o0]] [BF ((((V.st+0:Nat):Int):Int)<0),Qb V.mq,BF ((((V.st+0:Nat):Int):Int) > (V.nW:Int)),Qb V.mq,Wr ((V.nW:Int) - ((V.st+0:Nat):Int)) ((V.nW:Int) - ((V.st+0:Nat):Int)),BF ((1:Int) > ((V.nW:Int) - ((V.st+0:Nat):Int)))] [(6,i6 0)] rfl ⟨bf,rfl,bf,rfl,BP,bf,Ae⟩ ?_
  refine Az [] [] (i6 0) Ae ?_
  intro w10 hw10
  refine⟨_,_,rfl,hw10, ?_⟩
  refine AZ 9 7 [1] [[o0],[o0,o0],[o0,o0,o0,(a1 5),o0,o0,(oi (V.st+0))]] [Qb V.mq,(((V.st+0:Nat):Int):Int)=((V.st+0:Nat):Int),V.st+0<V.nW,BM] [(7,i6 0),(18,.int .u32 0),(19,.pointer (some ⟨V.gW,0+(V.st+0),none⟩))] rfl ⟨rfl,rfl,(by omega),rfl,Ae⟩ ?_
  refine G5 6 (V.st+0) 0 W 0 (fun x:Int=>[Value.int .u32 x]) V.n2 38 1 V.gW V.nW V.cW (.int .u32 0) none (by first | omega | (simp only[List.length_set];omega)) rfl ?_
  refine AZ 7 0 [] [[],[o0,o0]] [] [(6,i6 0)] rfl Ae ?_
  refine Az [] [] (i6 0) Ae ?_
  intro w11 hw11
  refine⟨_,_,rfl,hw11, ?_⟩
  refine Dh [1,6,9,10] [(RX V),(6,pt z),(Pn w3),(10,.slice (some ⟨g4,0,none⟩) 5 cp5)] ?_
  refine Ve (by kernel_rfl) ?_
  refine Gy <| CW <| DZ 9 [0,1,2,3,4,5,6,7,8] [(old S0 w),(JX z),(Hz V),(G8 V),(Cm V.B V.WS V.QS),(H7 V),(Rq V W),(H6 z r g4 cp5 s t pc o),(Iq V w3)] rfl rfl ?_
  refine Ci [(0,o0),(1,o0),(2,o0),(3,(a1 8)),(4,(ov (i6 ((V.st+1:Nat):Int)))),(5,o0),(6,(oi 1)),(7,(oa [.via 7 (.int .u32 r)])),(8,(ov (.int .u32 (r+1))))] [6,9,37,41,45] [Qb w3.heap.size,Wr ((V.st:Int)+1) (((V.st+1:Nat):Int)),(1:Int)=((1:Nat):Int),1<5,BM,∀ w',Ch.holds (H6 z r g4 cp5 s t pc o) w'→w'.cell? ⟨g4,1,none⟩=some (.int .u32 r),Value.int .u32 (IntKind.u32.wrap ((r:Int)+1))=Value.int .u32 (r+1)] (Dw 9 1) [(6,pt z),(Pn w3),(37,pt V.mq),(41,i6 ((V.st+1:Nat):Int)),(45,.int .u32 (r+1))] ⟨rfl,BP,rfl,(by omega),rfl,C9 (sz:=1) (j:=1) (k:=0) (fun _=>rfl) (by exact of_decide_eq_true rfl) rfl,congrArg (Value.int .u32) (Ru (by omega) (by omega) (by omega)),Ae⟩ ?_
  refine Bq 9 ?_
  refine FU [] [] 22 #[pt V.mq,i6 ((V.st+1:Nat):Int),.int .u32 (r+1)] (some 46) (by as_aux_lemma=>kernel_rfl) rfl rfl Ae ?_
  intro w12 hw12
  refine Bf (args:=[pt V.mq,i6 ((V.st+1:Nat):Int),.int .u32 (r+1)]) 21 ⟨w,w3.heap.size+1,[(old S0 w),(JX z),(Hz V),(G8 V),(Cm V.B V.WS V.QS),(H7 V),(Rq V W),(H6 z r g4 cp5 s t pc o),(Iq V w3)]⟩ Tryd.func22 rfl (by kernel_rfl) (by kernel_rfl) hw12 ?_
  refine Au 6 2 [] [[o0],[o0,o0]] [] [(PO V),(1,i6 ((V.st+1:Nat):Int)),(2,.int .u32 (r+1)),(8,pt V.mq),(9,i6 ((V.st+1:Nat):Int))] rfl Ae ?_
  refine l_call [] [] 36 #[pt V.mq,i6 ((V.st+1:Nat):Int),i6 1] (some 10) Ae ?_
  intro w13 hw13
  refine Bf (args:=[pt V.mq,i6 ((V.st+1:Nat):Int),i6 1]) 35 ⟨w,w3.heap.size+1,[(old S0 w),(JX z),(Hz V),(G8 V),(Cm V.B V.WS V.QS),(H7 V),(Rq V W),(H6 z r g4 cp5 s t pc o),(Iq V w3)]⟩ Tryd.func36 rfl (by kernel_rfl) (by kernel_rfl) hw13 ?_
  refine Au 25 0 [0,0] [[o0],[o0,o0],[o0,oF,o0,o0,o0,o0,o0,o0,o0,o0,o0,(a1 5),o0,oF,o0,o0,o0,o0,o0,o0,(a1 5),o0,o0,(ov (i6 ((V.nW:Int) - ((V.st+1:Nat):Int)))),oF,o0],[o0]] [BF ((((V.st+1:Nat):Int):Int)<0),Qb V.mq,BF ((((V.st+1:Nat):Int):Int) > (V.nW:Int)),Qb V.mq,Wr ((V.nW:Int) - ((V.st+1:Nat):Int)) ((V.nW:Int) - ((V.st+1:Nat):Int)),BF ((1:Int) > ((V.nW:Int) - ((V.st+1:Nat):Int)))] [(6,i6 0)] rfl ⟨bf,rfl,bf,rfl,BP,bf,Ae⟩ ?_
  refine Az [] [] (i6 0) Ae ?_
  intro w14 hw14
  refine⟨_,_,rfl,hw14, ?_⟩
  refine AZ 9 7 [1] [[o0],[o0,o0],[o0,o0,o0,(a1 5),o0,o0,(oi (V.st+1))]] [Qb V.mq,(((V.st+1:Nat):Int):Int)=((V.st+1:Nat):Int),V.st+1<V.nW,BM] [(7,i6 0),(18,.int .u32 (r+1)),(19,.pointer (some ⟨V.gW,0+(V.st+1),none⟩))] rfl ⟨rfl,rfl,(by omega),rfl,Ae⟩ ?_
  refine G5 6 (V.st+1) 0 (W.set (V.st+0) 0) (r+1) (fun x:Int=>[Value.int .u32 x]) V.n2 38 1 V.gW V.nW V.cW (.int .u32 (r+1)) none (by first | omega | (simp only[List.length_set];omega)) rfl ?_
  refine AZ 7 0 [] [[],[o0,o0]] [] [(6,i6 0)] rfl Ae ?_
  refine Az [] [] (i6 0) Ae ?_
  intro w15 hw15
  refine⟨_,_,rfl,hw15,.inl rfl, ?_⟩
  refine CY [6,9] [(6,pt z),(Pn w3)] ?_
  refine DX 10 [0,1,2,3,4,5,6,7,8] [(old S0 w),(JX z),(Hz V),(G8 V),(Cm V.B V.WS V.QS),(H7 V),(Qd V W r),(H6 z r g4 cp5 s t pc o),(Iq V w3)] rfl rfl ?_
  refine CE ?_
  refine BI [6,9] [(6,pt z),(Pn w3)] ?_
  refine Gy <| CW <| DZ 7 [0,1,2,3,4,5,6,7,8] [(old S0 w),(JX z),(Hz V),(G8 V),(Cm V.B V.WS V.QS),(H7 V),(Qd V W r),(H6 z r g4 cp5 s t pc o),(Iq V w3)] rfl rfl ?_
  refine Ci [(0,o0),(1,(a1 8)),(2,o0),(3,o0),(4,o0),(5,(a1 8))] [6,49,52] [Qb w3.heap.size,Qb w3.heap.size] (Dw 6 4) [(6,pt z),(PT V),(52,.func (.func V.fb) #[] V.ca)] ⟨rfl,rfl,Ae⟩ ?_
  rcases hH.cf with⟨hca0,hca1,hca2,hca3⟩ | ⟨hca0,hca1,hca2,hca3⟩
  ·refine Xc [(6,pt z),(PT V),(52,.func (.func 51) #[] #[])] (by(try dsimp only[JX,Iq,Hz,H7,Qd,H6,G8,PT,Pn]);simp only[hca1,hca2,hca3]) ?_
   refine Bq 6 ?_
   refine FU [] [] 51 #[] (some 53) (by as_aux_lemma=>kernel_rfl) rfl rfl Ae ?_
   intro w16 hw16
   refine(begin_0 w16 _ hca0).mono ?_
   rintro e w17 ⟨rfl,hkw17⟩
   have hnw17:w3.heap.size+1≤w17.heap.size:=Ef hw16 hkw17
   have hs18:=hw16.keeps hkw17
   refine⟨_,_,rfl,hs18,.inr (fun c hc=>hs18.all c (by first | exact hc | exact DW (is:=[0,1,2,3,4,5,6,7,8]) rfl c hc)), ?_⟩
   refine CY [6,49,53] [(6,pt z),(PT V),(53,i6 V.q.Dx)] ?_
   refine Bq 7 ?_
   refine BC (an 17 1) [6,53] [Qb z,Qb z,Qb z,Qb z,Qb z,Qb z,Qb z,Qb z,Qb z,Qb z,Qb z,Qb z,Qb z,Qb z,Qb z,Qb z,Qb z] [(6,pt z),(53,i6 V.q.Dx)] ⟨w,w17.heap.size,[(old S0 w),(Vr z V),(Hz V),(G8 V),(Cm V.B V.WS V.QS),(H7 V),(Qd V W r),(H6 z r g4 cp5 s t pc o),(Iq V w3)]⟩ [] ⟨rfl,rfl,rfl,rfl,rfl,rfl,rfl,rfl,rfl,rfl,rfl,rfl,rfl,rfl,rfl,rfl,rfl,Ae⟩ (.inl rfl) ?_
   refine DX 10 [0,1,2,3,4,5,6,7,8] [(old S0 w),(Vr z V),(Hz V),(G8 V),(Cm V.B V.WS V.QS),(H7 V),(Qd V W r),(H6 z r g4 cp5 s t pc o),(Iq V w3)] rfl rfl ?_
   refine Ci [(8,o0),(9,o0)] [6,7,8] [] (Dw 10 0) [(6,pt z),(7,i6 V.q.Dx),(8,i6 0)] Ae ?_
   refine CE ?_
   refine BI [6,7,8] [(6,pt z),(7,i6 V.q.Dx),(8,i6 0)] ?_
   refine Gy <| Iu <| Az [.at 1,.at 1,.at 1,.at 1,.at 1,.at 1,.at 1,.at 1,.at 1,.at 1,.at 1,.at 1,.at 1,.at 1,.at 1,.at 1,.at 1] [Qb z,Qb z,Qb z,Qb z,Qb z,Qb z,Qb z,Qb z,Qb z,Qb z,Qb z,Qb z,Qb z,Qb z,Qb z,Qb z,Qb z] (.tuple #[.agg #[.int .u32 0,.int .u32 0,.int .u32 0,.int .u32 0,.int .u32 0,.int .u32 0,.int .u32 0,.int .u32 0,.int .u32 0,.int .u32 0,.int .u32 0,.int .u32 0,.int .u32 0,.int .u32 0,.int .u32 0,.int .u32 0,.int .u32 V.q.Entry],i6 V.q.Dx,i6 0]) ⟨rfl,rfl,rfl,rfl,rfl,rfl,rfl,rfl,rfl,rfl,rfl,rfl,rfl,rfl,rfl,rfl,rfl,Ae⟩ ?_
   intro w19 hw19
   have h4:=hw19.pick [2,3,4,5,6] rfl rfl
   (try dsimp only[Vr,Iq,Hz,H7,Qd,H6,G8,PT]at h4)
   exact⟨_,_,_,rfl,.inl ⟨h7,rfl,rfl,rfl⟩,by rw[hw19.size];exact h4,Sat.back hw19 rfl (show w.heap.size≤w17.heap.size by omega) (List.mem_cons_self ..)⟩
  refine Xc [(6,pt z),(PT V),(52,.func (.func 53) #[] #[pt V.cb])] (by(try dsimp only[JX,Iq,Hz,H7,Qd,H6,G8,PT,Pn]);simp only[hca1,hca2,hca3]) ?_
  refine Bq 6 ?_
  refine FU [] [] 53 #[pt V.cb] (some 53) (by as_aux_lemma=>kernel_rfl) rfl rfl Ae ?_
  intro w20 hw20
  refine(begin_1 w20 _ _ (Yz hw20 (i:=4) rfl hH hca0)).mono ?_
  rintro e w21 ⟨rfl,hkw21⟩
  have hnw21:w3.heap.size+1≤w21.heap.size:=Ef hw20 hkw21
  have hs22:=hw20.keeps hkw21
  refine⟨_,_,rfl,hs22,.inr (fun c hc=>hs22.all c (by first | exact hc | exact DW (is:=[0,1,2,3,4,5,6,7,8]) rfl c hc)), ?_⟩
  refine CY [6,49,53] [(6,pt z),(PT V),(53,i6 V.q.Dx)] ?_
  refine Bq 7 ?_
  refine BC (an 17 1) [6,53] [Qb z,Qb z,Qb z,Qb z,Qb z,Qb z,Qb z,Qb z,Qb z,Qb z,Qb z,Qb z,Qb z,Qb z,Qb z,Qb z,Qb z] [(6,pt z),(53,i6 V.q.Dx)] ⟨w,w21.heap.size,[(old S0 w),(Vr z V),(Hz V),(G8 V),(Cm V.B V.WS V.QS),(H7 V),(Qd V W r),(H6 z r g4 cp5 s t pc o),(Iq V w3)]⟩ [] ⟨rfl,rfl,rfl,rfl,rfl,rfl,rfl,rfl,rfl,rfl,rfl,rfl,rfl,rfl,rfl,rfl,rfl,Ae⟩ (.inl rfl) ?_
  refine DX 10 [0,1,2,3,4,5,6,7,8] [(old S0 w),(Vr z V),(Hz V),(G8 V),(Cm V.B V.WS V.QS),(H7 V),(Qd V W r),(H6 z r g4 cp5 s t pc o),(Iq V w3)] rfl rfl ?_
  refine Ci [(8,o0),(9,o0)] [6,7,8] [] (Dw 10 0) [(6,pt z),(7,i6 V.q.Dx),(8,i6 0)] Ae ?_
  refine CE ?_
  refine BI [6,7,8] [(6,pt z),(7,i6 V.q.Dx),(8,i6 0)] ?_
  refine Gy <| Iu <| Az [.at 1,.at 1,.at 1,.at 1,.at 1,.at 1,.at 1,.at 1,.at 1,.at 1,.at 1,.at 1,.at 1,.at 1,.at 1,.at 1,.at 1] [Qb z,Qb z,Qb z,Qb z,Qb z,Qb z,Qb z,Qb z,Qb z,Qb z,Qb z,Qb z,Qb z,Qb z,Qb z,Qb z,Qb z] (.tuple #[.agg #[.int .u32 0,.int .u32 0,.int .u32 0,.int .u32 0,.int .u32 0,.int .u32 0,.int .u32 0,.int .u32 0,.int .u32 0,.int .u32 0,.int .u32 0,.int .u32 0,.int .u32 0,.int .u32 0,.int .u32 0,.int .u32 0,.int .u32 V.q.Entry],i6 V.q.Dx,i6 0]) ⟨rfl,rfl,rfl,rfl,rfl,rfl,rfl,rfl,rfl,rfl,rfl,rfl,rfl,rfl,rfl,rfl,rfl,Ae⟩ ?_
  intro w23 hw23
  have h4:=hw23.pick [2,3,4,5,6] rfl rfl
  (try dsimp only[Vr,Iq,Hz,H7,Qd,H6,G8,PT]at h4)
  exact⟨_,_,_,rfl,.inl ⟨h7,rfl,rfl,rfl⟩,by rw[hw23.size];exact h4,Sat.back hw23 rfl (show w.heap.size≤w21.heap.size by omega) (List.mem_cons_self ..)⟩
 refine Au 5 0 [0] [[oF,o0]] [EF s 2] [(RX V),(6,pt z),(Pn w3),(10,.slice (some ⟨g4,0,none⟩) 5 cp5),(28,.int .u32 s),(29,.bool false)] rfl ⟨ef,Ae⟩ ?_
 by_cases h24:(s:Int)=1
 ·refine Au 5 5 [1] [[oT,o0],[o0,o0,o0,(a1 8),(ov (i6 ((V.st+0:Nat):Int)))]] [ET s 1,Qb w3.heap.size,Wr ((V.st:Int)+0) (((V.st+0:Nat):Int))] [(RX V),(6,pt z),(Pn w3),(56,pt V.mq),(60,i6 ((V.st+0:Nat):Int))] rfl ⟨et,rfl,BP,Ae⟩ ?_
  refine l_call [] [] 22 #[pt V.mq,i6 ((V.st+0:Nat):Int),.int .u32 0] (some 61) Ae ?_
  intro w25 hw25
  refine Bf (args:=[pt V.mq,i6 ((V.st+0:Nat):Int),.int .u32 0]) 21 ⟨w,w3.heap.size+1,[(old S0 w),(JX z),(Hz V),(G8 V),(Cm V.B V.WS V.QS),(H7 V),(MQ V W),(H6 z r g4 cp5 s t pc o),(Iq V w3)]⟩ Tryd.func22 rfl (by kernel_rfl) (by kernel_rfl) hw25 ?_
  refine Au 6 2 [] [[o0],[o0,o0]] [] [(PO V),(1,i6 ((V.st+0:Nat):Int)),(2,.int .u32 0),(8,pt V.mq),(9,i6 ((V.st+0:Nat):Int))] rfl Ae ?_
  refine l_call [] [] 36 #[pt V.mq,i6 ((V.st+0:Nat):Int),i6 1] (some 10) Ae ?_
  intro w26 hw26
  refine Bf (args:=[pt V.mq,i6 ((V.st+0:Nat):Int),i6 1]) 35 ⟨w,w3.heap.size+1,[(old S0 w),(JX z),(Hz V),(G8 V),(Cm V.B V.WS V.QS),(H7 V),(MQ V W),(H6 z r g4 cp5 s t pc o),(Iq V w3)]⟩ Tryd.func36 rfl (by kernel_rfl) (by kernel_rfl) hw26 ?_
  refine Au 25 0 [0,0] [[o0],[o0,o0],[o0,oF,o0,o0,o0,o0,o0,o0,o0,o0,o0,(a1 5),o0,oF,o0,o0,o0,o0,o0,o0,(a1 5),o0,o0,(ov (i6 ((V.nW:Int) - ((V.st+0:Nat):Int)))),oF,o0],[o0]] [BF ((((V.st+0:Nat):Int):Int)<0),Qb V.mq,BF ((((V.st+0:Nat):Int):Int) > (V.nW:Int)),Qb V.mq,Wr ((V.nW:Int) - ((V.st+0:Nat):Int)) ((V.nW:Int) - ((V.st+0:Nat):Int)),BF ((1:Int) > ((V.nW:Int) - ((V.st+0:Nat):Int)))] [(6,i6 0)] rfl ⟨bf,rfl,bf,rfl,BP,bf,Ae⟩ ?_
  refine Az [] [] (i6 0) Ae ?_
  intro w27 hw27
  refine⟨_,_,rfl,hw27, ?_⟩
  refine AZ 9 7 [1] [[o0],[o0,o0],[o0,o0,o0,(a1 5),o0,o0,(oi (V.st+0))]] [Qb V.mq,(((V.st+0:Nat):Int):Int)=((V.st+0:Nat):Int),V.st+0<V.nW,BM] [(7,i6 0),(18,.int .u32 0),(19,.pointer (some ⟨V.gW,0+(V.st+0),none⟩))] rfl ⟨rfl,rfl,(by omega),rfl,Ae⟩ ?_
  refine G5 6 (V.st+0) 0 W 0 (fun x:Int=>[Value.int .u32 x]) V.n2 38 1 V.gW V.nW V.cW (.int .u32 0) none (by first | omega | (simp only[List.length_set];omega)) rfl ?_
  refine AZ 7 0 [] [[],[o0,o0]] [] [(6,i6 0)] rfl Ae ?_
  refine Az [] [] (i6 0) Ae ?_
  intro w28 hw28
  refine⟨_,_,rfl,hw28, ?_⟩
  refine AZ 5 4 [] [[],[o0,o0,o0,(a1 8)]] [Qb w3.heap.size] [(6,pt z),(63,pt V.mq),(66,Ac V.sv)] rfl ⟨rfl,Ae⟩ ?_
  refine l_call [] [] 23 #[pt V.mq,Ac V.sv,i6 17] (some 67) Ae ?_
  intro w29 hw29
  refine Bf (args:=[pt V.mq,Ac V.sv,i6 17]) 28 ⟨w,w3.heap.size+1,[(old S0 w),(JX z),(Hz V),(G8 V),(Cm V.B V.WS V.QS),(H7 V),(Rq V W),(H6 z r g4 cp5 s t pc o),(Iq V w3)]⟩ Tryd.func23 rfl (by kernel_rfl) (by kernel_rfl) hw29 ?_
  refine Au 7 3 [] [[o0,o0],[o0,o0,o0]] [] [(PO V),(1,Ac V.sv),(2,i6 17),(10,pt V.mq),(11,Ac V.sv),(12,i6 17)] rfl Ae ?_
  refine l_call [] [] 36 #[pt V.mq,Ac V.sv,i6 17] (some 13) Ae ?_
  intro w30 hw30
  refine Bf (args:=[pt V.mq,Ac V.sv,i6 17]) 35 ⟨w,w3.heap.size+1,[(old S0 w),(JX z),(Hz V),(G8 V),(Cm V.B V.WS V.QS),(H7 V),(Rq V W),(H6 z r g4 cp5 s t pc o),(Iq V w3)]⟩ Tryd.func36 rfl (by kernel_rfl) (by kernel_rfl) hw30 ?_
  refine Au 25 0 [0,0] [[o0],[o0,o0],[o0,oF,o0,o0,o0,o0,o0,o0,o0,o0,o0,(a1 5),o0,oF,o0,o0,o0,o0,o0,o0,(a1 5),o0,o0,(ov (i6 ((V.nW:Int) - (V.sv:Int)))),oF,o0],[o0]] [BF ((V.sv:Int)<0),Qb V.mq,BF ((V.sv:Int) > (V.nW:Int)),Qb V.mq,Wr ((V.nW:Int) - (V.sv:Int)) ((V.nW:Int) - (V.sv:Int)),BF ((17:Int) > ((V.nW:Int) - (V.sv:Int)))] [(6,i6 0)] rfl ⟨bf,rfl,bf,rfl,BP,bf,Ae⟩ ?_
  refine Az [] [] (i6 0) Ae ?_
  intro w31 hw31
  refine⟨_,_,rfl,hw31, ?_⟩
  refine AZ 11 1 [0] [[o0],[o0,o0],[o0]] [] [(PO V),(1,Ac V.sv),(17,i6 17)] rfl Ae ?_
  refine Z9 z 17 0 (fun x:Int=>[Value.int .u32 x]) 38 1 4 (.int .u32 0) (17:Int) (17:Int) (some 18) rfl rfl (by omega) (show z≤w3.heap.size+1 by omega) (fun n32 (hn33:w3.heap.size+1+1≤n32) => ?_)
  refine AZ 4 7 [] [[o0],[o0,o0,o0,o0,(a1 5),o0,⟨.slc V.sv V.nW true,none⟩]] [Qb V.mq,(V.sv:Int)=(V.sv:Int),(V.nW:Int)=(V.nW:Int),V.sv≤V.nW,V.nW≤V.cW,V.cW≠V.sv,BM] [(9,.slice (some ⟨w3.heap.size+1,0,none⟩) 17 17),(19,.slice (some ⟨w3.heap.size+1,0,none⟩) 17 17),(25,.slice (some ⟨V.gW,0+Ee 1 V.sv,none⟩) (V.nW - V.sv) (V.cW - V.sv))] rfl ⟨rfl,rfl,rfl,(by omega),(by omega),(by omega),rfl,Ae⟩ ?_
  refine QB z 9 0 17 6 (List.replicate 17 0) (((W.set (V.st+0) 0).drop V.sv).take (V.nW - V.sv)) (some ⟨V.gW,0+Ee 1 V.sv,none⟩) (fun x:Int=>[Value.int .u32 x]) 38 (w3.heap.size+1) 0 17 17 17 17 (V.nW - V.sv) (V.cW - V.sv) (Rq V W) (some 26) rfl (nmin_r (by omega)) (by omega) (by exact of_decide_eq_true rfl) (by rw[List.length_take,List.length_drop,show(W.set (V.st+0) 0).length=V.nW from(by simp only[List.length_set];exact hH.wl)];omega) (fun w' hw=>Xj hw (by simp only[List.length_set];exact hH.wl) (by omega) (by omega)) (fun n34 (hn35:n32≤n34) => ?_)
  rw[takeN (by simp only[List.length_set];exact hH.wl) (by omega)]
  refine AZ 7 0 [] [[],[o0,o0,o0]] [] [(6,.slice (some ⟨w3.heap.size+1,0,none⟩) 17 17),(7,i6 0)] rfl Ae ?_
  refine Az [] [] (.tuple #[.slice (some ⟨w3.heap.size+1,0,none⟩) 17 17,i6 0]) Ae ?_
  intro w36 hw36
  refine⟨_,_,rfl,hw36, ?_⟩
  refine EI 16 3 [0] [[o0,o0,o0,o0,o0],[o0,o0],[o0],[o0,o0,o0]] [] [(6,pt z),(12,.slice (some ⟨w3.heap.size+1,0,none⟩) 17 17),(13,pt n34),(74,.slice (some ⟨n34,0,none⟩) 16 16),(75,.slice (some ⟨w3.heap.size+1,0,none⟩) 17 17)] ⟨w,n34+1,[(old S0 w),(JX z),(Hz V),(G8 V),(Cm V.B V.WS V.QS),(H7 V),(Rq V W),(H6 z r g4 cp5 s t pc o),(Iq V w3),(Xe z V w3 W),(bk n34 #[.int .u32 0,.int .u32 0,.int .u32 0,.int .u32 0,.int .u32 0,.int .u32 0,.int .u32 0,.int .u32 0,.int .u32 0,.int .u32 0,.int .u32 0,.int .u32 0,.int .u32 0,.int .u32 0,.int .u32 0,.int .u32 0,.int .u32 0] 41)]⟩ rfl Ae ?_
  refine l_copyB 10 16 9 ((List.range 17).map fun k=>gd (W.set (V.st+0) 0) (V.sv+k)) (some ⟨w3.heap.size+1,0,none⟩) (fun x:Int=>[Value.int .u32 x]) 38 n34 16 16 17 17 41 #[.int .u32 0,.int .u32 0,.int .u32 0,.int .u32 0,.int .u32 0,.int .u32 0,.int .u32 0,.int .u32 0,.int .u32 0,.int .u32 0,.int .u32 0,.int .u32 0,.int .u32 0,.int .u32 0,.int .u32 0,.int .u32 0,.int .u32 0] #[.int .u32 (gd (W.set (V.st+0) 0) (V.sv+0)),.int .u32 (gd (W.set (V.st+0) 0) (V.sv+1)),.int .u32 (gd (W.set (V.st+0) 0) (V.sv+2)),.int .u32 (gd (W.set (V.st+0) 0) (V.sv+3)),.int .u32 (gd (W.set (V.st+0) 0) (V.sv+4)),.int .u32 (gd (W.set (V.st+0) 0) (V.sv+5)),.int .u32 (gd (W.set (V.st+0) 0) (V.sv+6)),.int .u32 (gd (W.set (V.st+0) 0) (V.sv+7)),.int .u32 (gd (W.set (V.st+0) 0) (V.sv+8)),.int .u32 (gd (W.set (V.st+0) 0) (V.sv+9)),.int .u32 (gd (W.set (V.st+0) 0) (V.sv+10)),.int .u32 (gd (W.set (V.st+0) 0) (V.sv+11)),.int .u32 (gd (W.set (V.st+0) 0) (V.sv+12)),.int .u32 (gd (W.set (V.st+0) 0) (V.sv+13)),.int .u32 (gd (W.set (V.st+0) 0) (V.sv+14)),.int .u32 (gd (W.set (V.st+0) 0) (V.sv+15)),.int .u32 0] (Xe z V w3 W) (some 76) (by exact of_decide_eq_true rfl) (by exact of_decide_eq_true rfl) rfl (fun w' hw=>QA (fun _=>rfl) hw (by exact of_decide_eq_true rfl) (fun _ _=>trivial)) ?_
  refine EI 11 0 [] [[],[o0,(oi 16),(oa [.via 9 (.int .u32 (gd (W.set (V.st+0) 0) (V.sv+16)))]),o0,(a1 10)],[(an 17 10),(an 17 1),o0,o0]] [(16:Int)=((16:Nat):Int),16<17,BM,∀ w',Ch.holds (Xe z V w3 W) w'→w'.cell? ⟨w3.heap.size+1,16,none⟩=some (.int .u32 (gd (W.set (V.st+0) 0) (V.sv+16))),Qb n34,Qb n34,Qb n34,Qb n34,Qb n34,Qb n34,Qb n34,Qb n34,Qb n34,Qb n34,Qb n34,Qb n34,Qb n34,Qb n34,Qb n34,Qb n34,Qb n34,Qb n34,Qb z,Qb z,Qb z,Qb z,Qb z,Qb z,Qb z,Qb z,Qb z,Qb z,Qb z,Qb z,Qb z,Qb z,Qb z,Qb z,Qb z] [(6,pt z),(7,i6 0),(8,i6 0)] ⟨w,n34+1,[(old S0 w),(bk z #[.int .u32 (gd (W.set (V.st+0) 0) (V.sv+0)),.int .u32 (gd (W.set (V.st+0) 0) (V.sv+1)),.int .u32 (gd (W.set (V.st+0) 0) (V.sv+2)),.int .u32 (gd (W.set (V.st+0) 0) (V.sv+3)),.int .u32 (gd (W.set (V.st+0) 0) (V.sv+4)),.int .u32 (gd (W.set (V.st+0) 0) (V.sv+5)),.int .u32 (gd (W.set (V.st+0) 0) (V.sv+6)),.int .u32 (gd (W.set (V.st+0) 0) (V.sv+7)),.int .u32 (gd (W.set (V.st+0) 0) (V.sv+8)),.int .u32 (gd (W.set (V.st+0) 0) (V.sv+9)),.int .u32 (gd (W.set (V.st+0) 0) (V.sv+10)),.int .u32 (gd (W.set (V.st+0) 0) (V.sv+11)),.int .u32 (gd (W.set (V.st+0) 0) (V.sv+12)),.int .u32 (gd (W.set (V.st+0) 0) (V.sv+13)),.int .u32 (gd (W.set (V.st+0) 0) (V.sv+14)),.int .u32 (gd (W.set (V.st+0) 0) (V.sv+15)),.int .u32 (gd (W.set (V.st+0) 0) (V.sv+16))] 41),(Hz V),(G8 V),(Cm V.B V.WS V.QS),(H7 V),(Rq V W),(H6 z r g4 cp5 s t pc o),(Iq V w3),(Xe z V w3 W),(bk n34 #[.int .u32 (gd (W.set (V.st+0) 0) (V.sv+0)),.int .u32 (gd (W.set (V.st+0) 0) (V.sv+1)),.int .u32 (gd (W.set (V.st+0) 0) (V.sv+2)),.int .u32 (gd (W.set (V.st+0) 0) (V.sv+3)),.int .u32 (gd (W.set (V.st+0) 0) (V.sv+4)),.int .u32 (gd (W.set (V.st+0) 0) (V.sv+5)),.int .u32 (gd (W.set (V.st+0) 0) (V.sv+6)),.int .u32 (gd (W.set (V.st+0) 0) (V.sv+7)),.int .u32 (gd (W.set (V.st+0) 0) (V.sv+8)),.int .u32 (gd (W.set (V.st+0) 0) (V.sv+9)),.int .u32 (gd (W.set (V.st+0) 0) (V.sv+10)),.int .u32 (gd (W.set (V.st+0) 0) (V.sv+11)),.int .u32 (gd (W.set (V.st+0) 0) (V.sv+12)),.int .u32 (gd (W.set (V.st+0) 0) (V.sv+13)),.int .u32 (gd (W.set (V.st+0) 0) (V.sv+14)),.int .u32 (gd (W.set (V.st+0) 0) (V.sv+15)),.int .u32 (gd (W.set (V.st+0) 0) (V.sv+16))] 41)]⟩ rfl ⟨rfl,(by omega),rfl,C9 (sz:=1) (j:=16) (k:=0) (fun _=>rfl) (by exact of_decide_eq_true rfl) rfl,rfl,rfl,rfl,rfl,rfl,rfl,rfl,rfl,rfl,rfl,rfl,rfl,rfl,rfl,rfl,rfl,rfl,rfl,rfl,rfl,rfl,rfl,rfl,rfl,rfl,rfl,rfl,rfl,rfl,rfl,rfl,rfl,rfl,rfl,rfl,Ae⟩ ?_
  refine Az [.at 1,.at 1,.at 1,.at 1,.at 1,.at 1,.at 1,.at 1,.at 1,.at 1,.at 1,.at 1,.at 1,.at 1,.at 1,.at 1,.at 1] [Qb z,Qb z,Qb z,Qb z,Qb z,Qb z,Qb z,Qb z,Qb z,Qb z,Qb z,Qb z,Qb z,Qb z,Qb z,Qb z,Qb z] (.tuple #[.agg #[.int .u32 (gd (W.set (V.st+0) 0) (V.sv+0)),.int .u32 (gd (W.set (V.st+0) 0) (V.sv+1)),.int .u32 (gd (W.set (V.st+0) 0) (V.sv+2)),.int .u32 (gd (W.set (V.st+0) 0) (V.sv+3)),.int .u32 (gd (W.set (V.st+0) 0) (V.sv+4)),.int .u32 (gd (W.set (V.st+0) 0) (V.sv+5)),.int .u32 (gd (W.set (V.st+0) 0) (V.sv+6)),.int .u32 (gd (W.set (V.st+0) 0) (V.sv+7)),.int .u32 (gd (W.set (V.st+0) 0) (V.sv+8)),.int .u32 (gd (W.set (V.st+0) 0) (V.sv+9)),.int .u32 (gd (W.set (V.st+0) 0) (V.sv+10)),.int .u32 (gd (W.set (V.st+0) 0) (V.sv+11)),.int .u32 (gd (W.set (V.st+0) 0) (V.sv+12)),.int .u32 (gd (W.set (V.st+0) 0) (V.sv+13)),.int .u32 (gd (W.set (V.st+0) 0) (V.sv+14)),.int .u32 (gd (W.set (V.st+0) 0) (V.sv+15)),.int .u32 (gd (W.set (V.st+0) 0) (V.sv+16))],i6 0,i6 0]) ⟨rfl,rfl,rfl,rfl,rfl,rfl,rfl,rfl,rfl,rfl,rfl,rfl,rfl,rfl,rfl,rfl,rfl,Ae⟩ ?_
  intro w37 hw37
  have h4:=hw37.pick [2,3,4,5,6] rfl rfl
  (try dsimp only[JX,Iq,Hz,H7,Xe,H6,Rq,G8,PO]at h4)
  exact⟨fun k=>gd (W.set V.st 0) (V.sv+k),0,(W.set V.st 0),rfl,.inr ⟨h7,rfl,rfl,by rw[if_pos h24]⟩,by rw[hw37.size];exact h4,Sat.back hw37 rfl (show w.heap.size≤n34+1 by omega) (List.mem_cons_self ..)⟩
 refine Au 9 4 [0] [[oF,o0],[o0,o0,o0,(a1 8)]] [EF s 1,Qb w3.heap.size] [(6,pt z),(63,pt V.mq),(66,Ac V.sv)] rfl ⟨ef,rfl,Ae⟩ ?_
 refine l_call [] [] 23 #[pt V.mq,Ac V.sv,i6 17] (some 67) Ae ?_
 intro w38 hw38
 refine Bf (args:=[pt V.mq,Ac V.sv,i6 17]) 28 ⟨w,w3.heap.size+1,[(old S0 w),(JX z),(Hz V),(G8 V),(Cm V.B V.WS V.QS),(H7 V),(MQ V W),(H6 z r g4 cp5 s t pc o),(Iq V w3)]⟩ Tryd.func23 rfl (by kernel_rfl) (by kernel_rfl) hw38 ?_
 refine Au 7 3 [] [[o0,o0],[o0,o0,o0]] [] [(PO V),(1,Ac V.sv),(2,i6 17),(10,pt V.mq),(11,Ac V.sv),(12,i6 17)] rfl Ae ?_
 refine l_call [] [] 36 #[pt V.mq,Ac V.sv,i6 17] (some 13) Ae ?_
 intro w39 hw39
 refine Bf (args:=[pt V.mq,Ac V.sv,i6 17]) 35 ⟨w,w3.heap.size+1,[(old S0 w),(JX z),(Hz V),(G8 V),(Cm V.B V.WS V.QS),(H7 V),(MQ V W),(H6 z r g4 cp5 s t pc o),(Iq V w3)]⟩ Tryd.func36 rfl (by kernel_rfl) (by kernel_rfl) hw39 ?_
 refine Au 25 0 [0,0] [[o0],[o0,o0],[o0,oF,o0,o0,o0,o0,o0,o0,o0,o0,o0,(a1 5),o0,oF,o0,o0,o0,o0,o0,o0,(a1 5),o0,o0,(ov (i6 ((V.nW:Int) - (V.sv:Int)))),oF,o0],[o0]] [BF ((V.sv:Int)<0),Qb V.mq,BF ((V.sv:Int) > (V.nW:Int)),Qb V.mq,Wr ((V.nW:Int) - (V.sv:Int)) ((V.nW:Int) - (V.sv:Int)),BF ((17:Int) > ((V.nW:Int) - (V.sv:Int)))] [(6,i6 0)] rfl ⟨bf,rfl,bf,rfl,BP,bf,Ae⟩ ?_
 refine Az [] [] (i6 0) Ae ?_
 intro w40 hw40
 refine⟨_,_,rfl,hw40, ?_⟩
 refine AZ 11 1 [0] [[o0],[o0,o0],[o0]] [] [(PO V),(1,Ac V.sv),(17,i6 17)] rfl Ae ?_
 refine Z9 z 17 0 (fun x:Int=>[Value.int .u32 x]) 38 1 4 (.int .u32 0) (17:Int) (17:Int) (some 18) rfl rfl (by omega) (show z≤w3.heap.size+1 by omega) (fun n41 (hn42:w3.heap.size+1+1≤n41) => ?_)
 refine AZ 4 7 [] [[o0],[o0,o0,o0,o0,(a1 5),o0,⟨.slc V.sv V.nW true,none⟩]] [Qb V.mq,(V.sv:Int)=(V.sv:Int),(V.nW:Int)=(V.nW:Int),V.sv≤V.nW,V.nW≤V.cW,V.cW≠V.sv,BM] [(9,.slice (some ⟨w3.heap.size+1,0,none⟩) 17 17),(19,.slice (some ⟨w3.heap.size+1,0,none⟩) 17 17),(25,.slice (some ⟨V.gW,0+Ee 1 V.sv,none⟩) (V.nW - V.sv) (V.cW - V.sv))] rfl ⟨rfl,rfl,rfl,(by omega),(by omega),(by omega),rfl,Ae⟩ ?_
 refine QB z 9 0 17 6 (List.replicate 17 0) ((W.drop V.sv).take (V.nW - V.sv)) (some ⟨V.gW,0+Ee 1 V.sv,none⟩) (fun x:Int=>[Value.int .u32 x]) 38 (w3.heap.size+1) 0 17 17 17 17 (V.nW - V.sv) (V.cW - V.sv) (MQ V W) (some 26) rfl (nmin_r (by omega)) (by omega) (by exact of_decide_eq_true rfl) (by rw[List.length_take,List.length_drop,show W.length=V.nW from hH.wl];omega) (fun w' hw=>Xj hw hH.wl (by omega) (by omega)) (fun n43 (hn44:n41≤n43) => ?_)
 rw[takeN hH.wl (by omega)]
 refine AZ 7 0 [] [[],[o0,o0,o0]] [] [(6,.slice (some ⟨w3.heap.size+1,0,none⟩) 17 17),(7,i6 0)] rfl Ae ?_
 refine Az [] [] (.tuple #[.slice (some ⟨w3.heap.size+1,0,none⟩) 17 17,i6 0]) Ae ?_
 intro w45 hw45
 refine⟨_,_,rfl,hw45, ?_⟩
 refine EI 16 3 [0] [[o0,o0,o0,o0,o0],[o0,o0],[o0],[o0,o0,o0]] [] [(6,pt z),(12,.slice (some ⟨w3.heap.size+1,0,none⟩) 17 17),(13,pt n43),(74,.slice (some ⟨n43,0,none⟩) 16 16),(75,.slice (some ⟨w3.heap.size+1,0,none⟩) 17 17)] ⟨w,n43+1,[(old S0 w),(JX z),(Hz V),(G8 V),(Cm V.B V.WS V.QS),(H7 V),(MQ V W),(H6 z r g4 cp5 s t pc o),(Iq V w3),(WX z V w3 W),(bk n43 #[.int .u32 0,.int .u32 0,.int .u32 0,.int .u32 0,.int .u32 0,.int .u32 0,.int .u32 0,.int .u32 0,.int .u32 0,.int .u32 0,.int .u32 0,.int .u32 0,.int .u32 0,.int .u32 0,.int .u32 0,.int .u32 0,.int .u32 0] 41)]⟩ rfl Ae ?_
 refine l_copyB 10 16 9 ((List.range 17).map fun k=>gd W (V.sv+k)) (some ⟨w3.heap.size+1,0,none⟩) (fun x:Int=>[Value.int .u32 x]) 38 n43 16 16 17 17 41 #[.int .u32 0,.int .u32 0,.int .u32 0,.int .u32 0,.int .u32 0,.int .u32 0,.int .u32 0,.int .u32 0,.int .u32 0,.int .u32 0,.int .u32 0,.int .u32 0,.int .u32 0,.int .u32 0,.int .u32 0,.int .u32 0,.int .u32 0] #[.int .u32 (gd W (V.sv+0)),.int .u32 (gd W (V.sv+1)),.int .u32 (gd W (V.sv+2)),.int .u32 (gd W (V.sv+3)),.int .u32 (gd W (V.sv+4)),.int .u32 (gd W (V.sv+5)),.int .u32 (gd W (V.sv+6)),.int .u32 (gd W (V.sv+7)),.int .u32 (gd W (V.sv+8)),.int .u32 (gd W (V.sv+9)),.int .u32 (gd W (V.sv+10)),.int .u32 (gd W (V.sv+11)),.int .u32 (gd W (V.sv+12)),.int .u32 (gd W (V.sv+13)),.int .u32 (gd W (V.sv+14)),.int .u32 (gd W (V.sv+15)),.int .u32 0] (WX z V w3 W) (some 76) (by exact of_decide_eq_true rfl) (by exact of_decide_eq_true rfl) rfl (fun w' hw=>QA (fun _=>rfl) hw (by exact of_decide_eq_true rfl) (fun _ _=>trivial)) ?_
 refine EI 11 0 [] [[],[o0,(oi 16),(oa [.via 9 (.int .u32 (gd W (V.sv+16)))]),o0,(a1 10)],[(an 17 10),(an 17 1),o0,o0]] [(16:Int)=((16:Nat):Int),16<17,BM,∀ w',Ch.holds (WX z V w3 W) w'→w'.cell? ⟨w3.heap.size+1,16,none⟩=some (.int .u32 (gd W (V.sv+16))),Qb n43,Qb n43,Qb n43,Qb n43,Qb n43,Qb n43,Qb n43,Qb n43,Qb n43,Qb n43,Qb n43,Qb n43,Qb n43,Qb n43,Qb n43,Qb n43,Qb n43,Qb n43,Qb z,Qb z,Qb z,Qb z,Qb z,Qb z,Qb z,Qb z,Qb z,Qb z,Qb z,Qb z,Qb z,Qb z,Qb z,Qb z,Qb z] [(6,pt z),(7,i6 0),(8,i6 0)] ⟨w,n43+1,[(old S0 w),(bk z #[.int .u32 (gd W (V.sv+0)),.int .u32 (gd W (V.sv+1)),.int .u32 (gd W (V.sv+2)),.int .u32 (gd W (V.sv+3)),.int .u32 (gd W (V.sv+4)),.int .u32 (gd W (V.sv+5)),.int .u32 (gd W (V.sv+6)),.int .u32 (gd W (V.sv+7)),.int .u32 (gd W (V.sv+8)),.int .u32 (gd W (V.sv+9)),.int .u32 (gd W (V.sv+10)),.int .u32 (gd W (V.sv+11)),.int .u32 (gd W (V.sv+12)),.int .u32 (gd W (V.sv+13)),.int .u32 (gd W (V.sv+14)),.int .u32 (gd W (V.sv+15)),.int .u32 (gd W (V.sv+16))] 41),(Hz V),(G8 V),(Cm V.B V.WS V.QS),(H7 V),(MQ V W),(H6 z r g4 cp5 s t pc o),(Iq V w3),(WX z V w3 W),(bk n43 #[.int .u32 (gd W (V.sv+0)),.int .u32 (gd W (V.sv+1)),.int .u32 (gd W (V.sv+2)),.int .u32 (gd W (V.sv+3)),.int .u32 (gd W (V.sv+4)),.int .u32 (gd W (V.sv+5)),.int .u32 (gd W (V.sv+6)),.int .u32 (gd W (V.sv+7)),.int .u32 (gd W (V.sv+8)),.int .u32 (gd W (V.sv+9)),.int .u32 (gd W (V.sv+10)),.int .u32 (gd W (V.sv+11)),.int .u32 (gd W (V.sv+12)),.int .u32 (gd W (V.sv+13)),.int .u32 (gd W (V.sv+14)),.int .u32 (gd W (V.sv+15)),.int .u32 (gd W (V.sv+16))] 41)]⟩ rfl ⟨rfl,(by omega),rfl,C9 (sz:=1) (j:=16) (k:=0) (fun _=>rfl) (by exact of_decide_eq_true rfl) rfl,rfl,rfl,rfl,rfl,rfl,rfl,rfl,rfl,rfl,rfl,rfl,rfl,rfl,rfl,rfl,rfl,rfl,rfl,rfl,rfl,rfl,rfl,rfl,rfl,rfl,rfl,rfl,rfl,rfl,rfl,rfl,rfl,rfl,rfl,rfl,Ae⟩ ?_
 refine Az [.at 1,.at 1,.at 1,.at 1,.at 1,.at 1,.at 1,.at 1,.at 1,.at 1,.at 1,.at 1,.at 1,.at 1,.at 1,.at 1,.at 1] [Qb z,Qb z,Qb z,Qb z,Qb z,Qb z,Qb z,Qb z,Qb z,Qb z,Qb z,Qb z,Qb z,Qb z,Qb z,Qb z,Qb z] (.tuple #[.agg #[.int .u32 (gd W (V.sv+0)),.int .u32 (gd W (V.sv+1)),.int .u32 (gd W (V.sv+2)),.int .u32 (gd W (V.sv+3)),.int .u32 (gd W (V.sv+4)),.int .u32 (gd W (V.sv+5)),.int .u32 (gd W (V.sv+6)),.int .u32 (gd W (V.sv+7)),.int .u32 (gd W (V.sv+8)),.int .u32 (gd W (V.sv+9)),.int .u32 (gd W (V.sv+10)),.int .u32 (gd W (V.sv+11)),.int .u32 (gd W (V.sv+12)),.int .u32 (gd W (V.sv+13)),.int .u32 (gd W (V.sv+14)),.int .u32 (gd W (V.sv+15)),.int .u32 (gd W (V.sv+16))],i6 0,i6 0]) ⟨rfl,rfl,rfl,rfl,rfl,rfl,rfl,rfl,rfl,rfl,rfl,rfl,rfl,rfl,rfl,rfl,rfl,Ae⟩ ?_
 intro w46 hw46
 have h4:=hw46.pick [2,3,4,5,6] rfl rfl
 (try dsimp only[JX,Iq,Hz,H7,WX,H6,MQ,G8,PO]at h4)
 exact⟨fun k=>gd W (V.sv+k),0,W,rfl,.inr ⟨h7,rfl,rfl,by rw[if_neg h24]⟩,by rw[hw46.size];exact h4,Sat.back hw46 rfl (show w.heap.size≤n43+1 by omega) (List.mem_cons_self ..)⟩
section
variable (z:Nat)(V:HV)(W:List Int)(kf:Nat)
abbrev Vy:=bk (z+1) #[i6 V.lk,Ac V.sv,Ac V.st,i6 V.rt,.slice V.ta V.tn V.tc,.int .u32 V.q.Entry,.int .u32 V.q.A7,.int .u32 V.q.AV,.func (.func V.fa) #[] V.ca,.func (.func V.fb) #[] V.ca] 81
abbrev UI:=bk z #[i6 V.lk,Ac V.sv,Ac V.st,i6 V.rt,.slice V.ta V.tn V.tc,.int .u32 V.q.Entry,.int .u32 V.q.A7,.int .u32 V.q.AV,.func (.func V.fa) #[] V.ca,.func (.func V.fb) #[] V.ca] 81
abbrev qopg_2:=bk z #[i6 0,i6 0,i6 0,i6 0,.slice none 0 0,.int .u32 0,.int .u32 0,.int .u32 0,.nilFunc,.nilFunc] 81
abbrev OM:Ch:= .blk V.dp (.cells #[i6 V.fr,.slice (some ⟨V.gV,0,none⟩) V.nP V.cV] 113 (0,0)) true
abbrev OE:Ch:= .blk V.mq (.cells #[.slice (some ⟨V.gW,0,none⟩) V.nW V.cW] 106 (0,0)) true
abbrev qopg_5:=BV V.n2 38 1 (fun x:Int=>[Value.int .u32 x]) (.slice (some ⟨V.gW,0,none⟩) V.nW V.cW) (O5 W V.st kf)
abbrev Ri:=BV V.n2 38 1 (fun x:Int=>[Value.int .u32 x]) (.slice (some ⟨V.gW,0,none⟩) V.nW V.cW) W
abbrev JA:=BV V.n 81 10 Iw.cells (.slice (some ⟨V.gV,0,none⟩) V.nP V.cV) V.WS
abbrev Uw:=(0,pt V.dp)
abbrev UB:=(0,pt V.mq)
abbrev SC:=(1,Ac V.st)
abbrev Sm:=(2,Ac V.p)
end
theorem begin_calls(w w0:World)(V:HV)(W:List Int)(hO:Sat ⟨w0,w.heap.size,KU V W⟩ w)(S0:Nat→Prop)(hS0:S0=JY (KU V W))(hn1:V.n≤w.heap.size)(hn2:V.n2≤w.heap.size)(hH:Ko V W):Calls Tryd.prog 17 #[.pointer (some ⟨V.dp,0,none⟩),.pointer (some ⟨V.mq,0,none⟩),.int .i64 (V.p:Int)] w fun e w'=>e = .returned (.int .i64 0)∧Sat ⟨w,w'.heap.size,KU V (Ie (O5 W V.st 5) V.sv (LH (NV V.q.Entry)))⟩ w'∧Ce S0 w w':=by
 obtain⟨z,hz⟩:∃ z,z=w.heap.size:=⟨_,rfl⟩
 refine Bf (args:=[pt V.dp,pt V.mq,Ac V.p]) 31 ⟨w,z,[(old S0 w),(OM V),(JA V),(Cm V.B V.WS V.QS),(OE V),(Ri V W)]⟩ Tryd.func17 rfl (by kernel_rfl) (by kernel_rfl) (hS0 ▸ hz ▸ O4 hO IB) ?_
 have hwl:=hH.wl;have hwn:=hH.wn;have hfr:=hH.fr;have hlp:=hH.lp;have hls:=hH.ls;have hcw:=hH.cw;have hsn:=hH.sn;have hss:=hH.ss;have hq1:=hH.rg.en;have hq2:=hH.rg.ac;have hq3:=hH.rg.re;have hq4:=hH.rg.ou
 refine Di [0,1,2] [(Uw V),(1,pt V.mq),(Sm V)] ?_
 refine Au 6 3 [] [[o0],[o0,o0,o0]] [] [(Uw V),(1,pt V.mq),(Sm V),(10,pt V.dp),(11,pt V.mq),(12,Ac V.p)] rfl Ae ?_
 refine l_call [] [] 24 #[pt V.dp,pt V.mq,Ac V.p,.bool false] (some 13) Ae ?_
 intro w1 hw1
 refine Bf (args:=[pt V.dp,pt V.mq,Ac V.p,.bool false]) 50 ⟨w,z,[(old S0 w),(OM V),(JA V),(Cm V.B V.WS V.QS),(OE V),(Ri V W)]⟩ Tryd.func24 rfl (by kernel_rfl) (by kernel_rfl) hw1 ?_
 refine q_c 12 0 [0] [[o0,o0],[o0,o0,o0,o0,o0,o0,o0]] [] [(Uw V),(1,pt V.mq),(Sm V),(3,.bool false),(8,pt z),(10,.bool false)] ⟨w,z+1,[(old S0 w),(OM V),(JA V),(Cm V.B V.WS V.QS),(OE V),(Ri V W),(qopg_2 z)]⟩ rfl Ae ?_
 refine DZ 11 [0,1,2,3,4,5,6] [(old S0 w),(OM V),(JA V),(Cm V.B V.WS V.QS),(OE V),(Ri V W),(qopg_2 z)] rfl rfl ?_
 refine Ci [(0,o0),(2,o0),(3,o0),(4,o0),(5,(a1 1))] [0,2,3,8,19,24] [Qb V.dp] [true,false,true,true,true,true,false,false,false,false,false] [(Uw V),(Sm V),(3,.bool false),(8,pt z),(19,pt V.mq),(24,i6 V.fr)] ⟨rfl,Ae⟩ ?_
 refine Bq 1 ?_
 refine FU [] [] 37 #[pt V.mq] (some 20) (by as_aux_lemma=>kernel_rfl) rfl rfl Ae ?_
 intro w2 hw2
 refine Bf (args:=[pt V.mq]) 11 ⟨w,z+1,[(old S0 w),(OM V),(JA V),(Cm V.B V.WS V.QS),(OE V),(Ri V W),(qopg_2 z)]⟩ Tryd.func37 rfl (by kernel_rfl) (by kernel_rfl) hw2 ?_
 refine Au 17 0 [0] [[o0],[o0,o0],[o0,o0,o0,(a1 4),o0,(ov (i6 ((V.nW / 16:Nat):Int))),o0]] [Qb V.mq,Wr (Int.tdiv ((V.nW:Int)) 16) (((V.nW / 16:Nat):Int))] [(2,i6 ((V.nW / 16:Nat):Int))] rfl ⟨rfl,congrArg (Value.int .i64) (Me (by omega) (by omega) (by omega)),Ae⟩ ?_
 refine Az [] [] (i6 ((V.nW / 16:Nat):Int)) Ae ?_
 intro w3 hw3
 have hs4:=hw3
 refine⟨_,_,rfl,hs4,.inr (fun c hc=>hs4.all c (by first | exact hc | exact DW (is:=[0,1,2,3,4,5,6]) rfl c hc)), ?_⟩
 refine CY [0,2,3,8,24,20] [(Uw V),(Sm V),(3,.bool false),(8,pt z),(24,i6 V.fr),(20,i6 ((V.nW / 16:Nat):Int))] ?_
 refine Ci [(6,oF),(7,o0),(8,o0),(9,o0),(10,o0)] [0,2,8,18] [NF ((V.nW / 16:Nat):Int) V.fr] (Dw 11 0) [(Uw V),(Sm V),(8,pt z),(18,.bool false)] ⟨nf,Ae⟩ ?_
 refine CE ?_
 refine q_o 15 0 [0,0] [[o0,oF,o0,o0,o0,o0,o0,(a1 1),o0,oF,o0,o0],[o0,o0,o0,(a1 1),o0,(oi V.p),(oa [.via 2 (i6 V.lk),.via 2 (Ac V.sv),.via 2 (Ac V.st),.via 2 (i6 V.rt),.via 2 (.slice V.ta V.tn V.tc),.via 2 (.int .u32 V.q.Entry),.via 2 (.int .u32 V.q.A7),.via 2 (.int .u32 V.q.AV),.via 2 (.func (.func V.fa) #[] V.ca),.via 2 (.func (.func V.fb) #[] V.ca)]),(an 10 6),o0]] [BF ((V.p:Int)<0),Qb V.dp,BF ((V.p:Int)≥(V.nP:Int)),Qb V.dp,(V.p:Int)=(V.p:Int),V.p<V.nP,BM,∀ w',Ch.holds (JA V) w'→w'.cell? ⟨V.gV,0+Ee 10 V.p,none⟩=some (i6 V.lk),∀ w',Ch.holds (JA V) w'→w'.cell? ⟨V.gV,0+Ee 10 V.p+1,none⟩=some (Ac V.sv),∀ w',Ch.holds (JA V) w'→w'.cell? ⟨V.gV,0+Ee 10 V.p+2,none⟩=some (Ac V.st),∀ w',Ch.holds (JA V) w'→w'.cell? ⟨V.gV,0+Ee 10 V.p+3,none⟩=some (i6 V.rt),∀ w',Ch.holds (JA V) w'→w'.cell? ⟨V.gV,0+Ee 10 V.p+4,none⟩=some (.slice V.ta V.tn V.tc),∀ w',Ch.holds (JA V) w'→w'.cell? ⟨V.gV,0+Ee 10 V.p+5,none⟩=some (.int .u32 V.q.Entry),∀ w',Ch.holds (JA V) w'→w'.cell? ⟨V.gV,0+Ee 10 V.p+6,none⟩=some (.int .u32 V.q.A7),∀ w',Ch.holds (JA V) w'→w'.cell? ⟨V.gV,0+Ee 10 V.p+7,none⟩=some (.int .u32 V.q.AV),∀ w',Ch.holds (JA V) w'→w'.cell? ⟨V.gV,0+Ee 10 V.p+8,none⟩=some (.func (.func V.fa) #[] V.ca),∀ w',Ch.holds (JA V) w'→w'.cell? ⟨V.gV,0+Ee 10 V.p+9,none⟩=some (.func (.func V.fb) #[] V.ca),Qb z,Qb z,Qb z,Qb z,Qb z,Qb z,Qb z,Qb z,Qb z,Qb z] [(8,pt z),(9,i6 0)] ⟨w,z+1,[(old S0 w),(OM V),(JA V),(Cm V.B V.WS V.QS),(OE V),(Ri V W),(UI z V)]⟩ rfl ⟨bf,rfl,bf,rfl,rfl,(by omega),rfl,C9 (sz:=10) (j:=V.p) (k:=0) (fun _=>rfl) hH.lp (by rw[hH.y];rfl),C9 (sz:=10) (j:=V.p) (k:=1) (fun _=>rfl) hH.lp (by rw[hH.y];rfl),C9 (sz:=10) (j:=V.p) (k:=2) (fun _=>rfl) hH.lp (by rw[hH.y];rfl),C9 (sz:=10) (j:=V.p) (k:=3) (fun _=>rfl) hH.lp (by rw[hH.y];rfl),C9 (sz:=10) (j:=V.p) (k:=4) (fun _=>rfl) hH.lp (by rw[hH.y];rfl),C9 (sz:=10) (j:=V.p) (k:=5) (fun _=>rfl) hH.lp (by rw[hH.y];rfl),C9 (sz:=10) (j:=V.p) (k:=6) (fun _=>rfl) hH.lp (by rw[hH.y];rfl),C9 (sz:=10) (j:=V.p) (k:=7) (fun _=>rfl) hH.lp (by rw[hH.y];rfl),C9 (sz:=10) (j:=V.p) (k:=8) (fun _=>rfl) hH.lp (by rw[hH.y];rfl),C9 (sz:=10) (j:=V.p) (k:=9) (fun _=>rfl) hH.lp (by rw[hH.y];rfl),rfl,rfl,rfl,rfl,rfl,rfl,rfl,rfl,rfl,rfl,Ae⟩ ?_
 refine Az [.at 6,.at 6,.at 6,.at 6,.at 6,.at 6,.at 6,.at 6,.at 6,.at 6] [Qb z,Qb z,Qb z,Qb z,Qb z,Qb z,Qb z,Qb z,Qb z,Qb z] (.tuple #[.agg #[i6 V.lk,Ac V.sv,Ac V.st,i6 V.rt,.slice V.ta V.tn V.tc,.int .u32 V.q.Entry,.int .u32 V.q.A7,.int .u32 V.q.AV,.func (.func V.fa) #[] V.ca,.func (.func V.fb) #[] V.ca],i6 0]) ⟨rfl,rfl,rfl,rfl,rfl,rfl,rfl,rfl,rfl,rfl,Ae⟩ ?_
 intro w5 hw5
 refine⟨_,_,rfl,hw5, ?_⟩
 refine EI 12 4 [0] [[o0,o0,o0,o0,(an 10 7),o0],[o0,o0],[o0,o0,o0,(a1 7)]] [Qb (z+1),Qb (z+1),Qb (z+1),Qb (z+1),Qb (z+1),Qb (z+1),Qb (z+1),Qb (z+1),Qb (z+1),Qb (z+1),Qb (z+1)] [(Uw V),(1,pt V.mq),(Sm V),(7,pt (z+1)),(19,pt V.mq),(22,Ac V.st)] ⟨w,z+2,[(old S0 w),(OM V),(JA V),(Cm V.B V.WS V.QS),(OE V),(Ri V W),(UI z V),(Vy z V)]⟩ rfl ⟨rfl,rfl,rfl,rfl,rfl,rfl,rfl,rfl,rfl,rfl,rfl,Ae⟩ ?_
 refine l_call [] [] 33 #[pt V.mq,Ac V.st,i6 5,.int .u32 0] (some 23) Ae ?_
 intro w6 hw6
 refine Bf (args:=[pt V.mq,Ac V.st,i6 5,.int .u32 0]) 32 ⟨w,z+2,[(old S0 w),(OM V),(JA V),(Cm V.B V.WS V.QS),(OE V),(Ri V W),(UI z V),(Vy z V)]⟩ Tryd.func33 rfl (by kernel_rfl) (by kernel_rfl) hw6 ?_
 refine Au 7 3 [] [[o0],[o0,o0,o0]] [] [(UB V),(SC V),(2,i6 5),(3,.int .u32 0),(11,pt V.mq),(12,Ac V.st),(13,i6 5)] rfl Ae ?_
 refine l_call [] [] 36 #[pt V.mq,Ac V.st,i6 5] (some 14) Ae ?_
 intro w7 hw7
 refine Bf (args:=[pt V.mq,Ac V.st,i6 5]) 35 ⟨w,z+2,[(old S0 w),(OM V),(JA V),(Cm V.B V.WS V.QS),(OE V),(Ri V W),(UI z V),(Vy z V)]⟩ Tryd.func36 rfl (by kernel_rfl) (by kernel_rfl) hw7 ?_
 refine Au 25 0 [0,0] [[o0],[o0,o0],[o0,oF,o0,o0,o0,o0,o0,o0,o0,o0,o0,(a1 4),o0,oF,o0,o0,o0,o0,o0,o0,(a1 4),o0,o0,(ov (i6 ((V.nW:Int) - (V.st:Int)))),oF,o0],[o0]] [BF ((V.st:Int)<0),Qb V.mq,BF ((V.st:Int) > (V.nW:Int)),Qb V.mq,Wr ((V.nW:Int) - (V.st:Int)) ((V.nW:Int) - (V.st:Int)),BF ((5:Int) > ((V.nW:Int) - (V.st:Int)))] [(6,i6 0)] rfl ⟨bf,rfl,bf,rfl,BP,bf,Ae⟩ ?_
 refine Az [] [] (i6 0) Ae ?_
 intro w8 hw8
 refine⟨_,_,rfl,hw8, ?_⟩
 refine AZ 15 0 [0] [[o0],[o0,o0],[o0,o0]] [] [(UB V),(SC V),(3,.int .u32 0),(18,i6 5),(19,i6 0)] rfl Ae ?_
 refine D8 (fun m a w'=>∃ (n10:Nat) (kf:Nat),m=5 - kf∧z+2≤n10∧(kf≤5)∧St 32 [(UB V),(SC V),(3,.int .u32 0),(18,i6 5),(19,Ac kf)] [] ⟨w,n10,[(old S0 w),(OM V),(JA V),(Cm V.B V.WS V.QS),(OE V),(qopg_5 V W kf),(UI z V),(Vy z V)]⟩ a w') (5 - 0) ?_ ?_
 ·intro a w' hs;exact⟨(z+2),0,rfl,Nat.le_refl _,Nat.zero_le _,hs⟩
 rintro m a w' ⟨n10,kf,rfl,hn9,hkkf,hs⟩
 refine(?_:G Tryd.prog 32 [(UB V),(SC V),(3,.int .u32 0),(18,i6 5),(19,Ac kf)] [] ⟨w,n10,[(old S0 w),(OM V),(JA V),(Cm V.B V.WS V.QS),(OE V),(qopg_5 V W kf),(UI z V),(Vy z V)]⟩ _ _ _) a w' hs
 clear hs a w'
 have hfz:=UZ (W:=W) (a:=V.st) kf
 refine CW ?_
 by_cases h11:(kf:Int)<5
 ·refine Au 14 9 [1] [[oT],[o0,o0],[o0,o0,o0,(a1 4),o0,o0,(ov (i6 ((V.st+kf:Nat):Int))),o0,(oi (V.st+kf))]] [BT ((kf:Int)<5),Qb V.mq,Wr ((V.st:Int)+(kf:Int)) (((V.st+kf:Nat):Int)),(((V.st+kf:Nat):Int):Int)=((V.st+kf:Nat):Int),V.st+kf<V.nW,BM] [(UB V),(SC V),(3,.int .u32 0),(18,i6 5),(19,Ac kf),(29,.int .u32 0),(30,.pointer (some ⟨V.gW,0+(V.st+kf),none⟩))] rfl ⟨bt,rfl,BP,rfl,(by omega),rfl,Ae⟩ ?_
  refine G5 5 (V.st+kf) 0 (O5 W V.st kf) 0 (fun x:Int=>[Value.int .u32 x]) V.n2 38 1 V.gW V.nW V.cW (.int .u32 0) none (by rw[UZ];omega) rfl ?_
  refine AZ 5 0 [] [[],[(ov (i6 ((kf+1:Nat):Int))),o0]] [Wr ((kf:Int)+1) (((kf+1:Nat):Int))] [(UB V),(SC V),(3,.int .u32 0),(18,i6 5),(19,i6 ((kf+1:Nat):Int))] rfl ⟨BP,Ae⟩ ?_
  refine BR (fun a w' hs=>⟨5 - (kf+1),by omega,n10,(kf+1),rfl,by omega,by omega,hs⟩)
 refine Au 15 0 [0] [[oF],[o0]] [BF ((kf:Int)<5)] [(8,i6 0)] rfl ⟨bf,Ae⟩ ?_
 refine Az [] [] (i6 0) Ae ?_
 intro w12 hw12
 refine⟨_,_,rfl,hw12, ?_⟩
 refine AZ 4 6 [] [[],[o0,o0,o0,o0,(a1 7),o0]] [Qb (z+1)] [(24,pt V.dp),(25,pt V.mq),(26,Ac V.p),(29,.agg #[.int .u32 0,.int .u32 0,.int .u32 0,.int .u32 0,.int .u32 0,.int .u32 0,.int .u32 0,.int .u32 0,.int .u32 0,.int .u32 0,.int .u32 0,.int .u32 0,.int .u32 0,.int .u32 0,.int .u32 0,.int .u32 0,.int .u32 V.q.Entry])] rfl ⟨rfl,Ae⟩ ?_
 refine l_call [] [] 11 #[pt V.dp,pt V.mq,Ac V.p,.agg #[.int .u32 0,.int .u32 0,.int .u32 0,.int .u32 0,.int .u32 0,.int .u32 0,.int .u32 0,.int .u32 0,.int .u32 0,.int .u32 0,.int .u32 0,.int .u32 0,.int .u32 0,.int .u32 0,.int .u32 0,.int .u32 0,.int .u32 V.q.Entry]] (some 30) Ae ?_
 intro w13 hw13
 have hq14:=hw13.pick [1,2,3,4,5] rfl rfl
 refine(Wi w13 w V (O5 W V.st kf) (by rw[hw13.size];exact hq14) _ rfl (by have:=hw13.size;simp only[]at this;omega) (by have:=hw13.size;simp only[]at this;omega) (Zg hH kf) (NV V.q.Entry)).mono ?_
 rintro e w15 ⟨rfl,hSw15,hkw15⟩
 have hnw15:n10≤w15.heap.size:=Ef hw13 hkw15
 have hszw15:w13.heap.size=n10:=hw13.size
 refine⟨_,_,rfl,hw13.turn [0,6,7] [1,2,3,4,5] rfl rfl rfl (by decide) (IB (V:=V)) hkw15 (fun c hc=>⟨hSw15.all c hc,hSw15.Kq c hc,fun b hb=>⟨hSw15.bnd c hc b hb,Oy c hc b hb⟩⟩) hSw15.Jq, ?_⟩
 refine AZ 3 0 [] [[o0]] [] [(6,i6 0)] rfl Ae ?_
 refine Az [] [] (i6 0) Ae ?_
 intro w16 hw16
 have h4:=hw16.pick [3,4,5,6,7] rfl rfl
 (try dsimp only[Vy,UI,OM,OE,qopg_5,JA,UB,SC]at h4)
 obtain rfl:kf=5:=by omega
 exact⟨rfl,by rw[hw16.size];exact h4,Sat.back hw16 rfl (show w.heap.size≤w15.heap.size by omega) (List.mem_cons_self ..)⟩
structure Ox where
 Do:Int
 P:Int
 Number:Int
 Word:Int
 x:Nat→Int
 nl:Bool
 ot:Bool
instance:Inhabited Ox:=⟨⟨0,0,0,0,fun _=>0,false,false⟩⟩
def Ox.cells(o:Ox):List Value:=[.int .i64 o.Do,.int .i64 o.P,.int .i64 o.Number,.int .u32 o.Word,.int .u32 (o.x 0),.int .u32 (o.x 1),.int .u32 (o.x 2),.int .u32 (o.x 3),.int .u32 (o.x 4),.int .u32 (o.x 5),.int .u32 (o.x 6),.int .u32 (o.x 7),.int .u32 (o.x 8),.int .u32 (o.x 9),.int .u32 (o.x 10),.int .u32 (o.x 11),.int .u32 (o.x 12),.int .u32 (o.x 13),.int .u32 (o.x 14),.int .u32 (o.x 15),.int .u32 (o.x 16),.bool o.nl,.bool o.ot]
abbrev Ox.arr(o:Ox):Array Value:= #[.int .i64 o.Do,.int .i64 o.P,.int .i64 o.Number,.int .u32 o.Word,.int .u32 (o.x 0),.int .u32 (o.x 1),.int .u32 (o.x 2),.int .u32 (o.x 3),.int .u32 (o.x 4),.int .u32 (o.x 5),.int .u32 (o.x 6),.int .u32 (o.x 7),.int .u32 (o.x 8),.int .u32 (o.x 9),.int .u32 (o.x 10),.int .u32 (o.x 11),.int .u32 (o.x 12),.int .u32 (o.x 13),.int .u32 (o.x 14),.int .u32 (o.x 15),.int .u32 (o.x 16),.bool o.nl,.bool o.ot]
structure Ox.ok(o:Ox):Prop where
 Number:IG .i64 o.Number
 Word:0≤o.Word∧o.Word<4294967296
 x:∀ k,k<17→0≤o.x k∧o.x k<4294967296
structure Zaj(V:HV)(o:Ox)(W W':List Int)(s r ou dn s' r' t' pc':Int):Prop where
 h5:S5 W' V.st s' r' t' pc' ou
 hR:Rg V.q s' r' t' pc' ou
 hH:Ko V W'
 hd:(dn=0∧r'=r)∨(dn=V.q.Dx∧r'=r+1∧V.q.Dx≠0∧r<V.q.A7)
 same:∀ k,k<V.nW→(V.st≤k∧k<V.st+5∧2≤o.Do∧o.Do≤5)∨(V.sv≤k∧k<V.sv+17∧o.Do=6)∨gd W' k=gd W k
section
variable {V:HV}{o:Ox}{W:List Int}{s r t pc ou:Int}
theorem pl_status(hH:Ko V W)(h5:S5 W V.st s r t pc ou)(hR:Rg V.q s r t pc ou):Zaj V o W W s r ou 0 s r t pc :=
 ⟨h5,hR,hH,.inl ⟨rfl,rfl⟩,fun k _=> .inr (.inr rfl)⟩
theorem s5_set(hH:Ko V W)(h5:S5 W V.st s r t pc ou)(x:Int):S5 (W.set V.st x) V.st x r t pc ou:=by
 have hl:=hH.wl;have hn:=hH.sn
 exact⟨MG (by omega),by rw[IZ (by omega) (by omega)];exact h5.r,by rw[IZ (by omega) (by omega)];exact h5.t,by rw[IZ (by omega) (by omega)];exact h5.pc,by rw[IZ (by omega) (by omega)];exact h5.o⟩
theorem rg_state(hR:Rg V.q s r t pc ou){x:Int}(hx:0≤x∧x≤3)(h2:x≠2):Rg V.q x r t pc ou:=⟨hx,hR.hr,hR.ht,hR.tp,hR.hpc,hR.ho,fun e=>absurd e h2⟩
theorem Za4(hH:Ko V W)(h5:S5 W V.st s r t pc ou)(hR:Rg V.q s r t pc ou){x:Int}(hx:0≤x∧x≤3)(h2:x≠2)(hd:2≤o.Do∧o.Do≤5):Zaj V o W (W.set V.st x) s r ou 0 x r t pc:=by
 have hl:=hH.wl;have hn:=hH.sn
 refine⟨s5_set hH h5 x,rg_state hR hx h2,Zq hH (by omega),.inl ⟨rfl,rfl⟩,fun k hk => ?_⟩
 by_cases e:k=V.st
 ·exact .inl ⟨by omega,by omega,hd⟩
 exact .inr (.inr (IZ (Ne.symm e) (by omega)))
theorem s5_put(hH:Ko V W)(a b c d e:Int):S5 (Ie W V.st [a,b,c,d,e]) V.st a b c d e:=by
 have hl:=hH.wl;have hn:=hH.sn
 have h:V.st+([a,b,c,d,e]:List Int).length≤W.length:=by simp only[List.length_cons,List.length_nil];omega
 exact⟨N9 (k:=0) h (by simp),N9 (k:=1) h (by simp),N9 (k:=2) h (by simp),N9 (k:=3) h (by simp),N9 (k:=4) h (by simp)⟩
theorem pl_trap(hH:Ko V W)(hR:Rg V.q s r t pc ou){tr pcn:Int}(ht:1≤tr∧tr≤6)(hp:0≤pcn∧pcn<4294967296)(hd:2≤o.Do∧o.Do≤5):Zaj V o W (Ie W V.st [if IQ V.q r=true then 2 else 3,r,tr,pcn,ou]) s r ou 0 (if IQ V.q r=true then 2 else 3) r tr pcn:=by
 have hl:=hH.wl;have hn:=hH.sn;have h1:=hR.hr;have h2:=hR.ho;have h3:=hH.rg.re;have h4:=hH.rg.ou
 have hs:0≤(if IQ V.q r=true then(2:Int)else 3)∧(if IQ V.q r=true then(2:Int)else 3)≤3:=by split <;> decide
 have hlen:([if IQ V.q r=true then 2 else 3,r,tr,pcn,ou]:List Int).length=5:=rfl
 refine⟨s5_put hH _ _ _ _ _,⟨hs,hR.hr,by omega,fun e=>by omega,hp,hR.ho,fun e => ?_⟩,hw_put hH (by omega) (fun k hk => ?_),.inl ⟨rfl,rfl⟩,fun k hk => ?_⟩
 ·by_cases ha:IQ V.q r=true
  ·exact ha
  rw[if_neg ha]at e;exact absurd e (by decide)
 ·rw[hlen]at hk
  match k,hk with
  | 0,_=>exact⟨hs.1,Int.lt_of_le_of_lt hs.2 (by decide)⟩
  | 1,_=>show 0≤r∧r<4294967296;omega
  | 2,_=>show 0≤tr∧tr<4294967296;omega
  | 3,_=>exact hp
  | 4,_=>show 0≤ou∧ou<4294967296;omega
 by_cases e:V.st≤k∧k<V.st+5
 ·exact .inl ⟨e.1,e.2,hd⟩
 exact .inr (.inr (Qu (by omega) (by omega) (by omega)))
theorem pl_save(hH:Ko V W)(h5:S5 W V.st s r t pc ou)(hR:Rg V.q s r t pc ou){f:Nat→Int}(hf:∀ k,k<17→0≤f k∧f k<4294967296)(hd:o.Do=6):Zaj V o W (Ie W V.sv (LH f)) s r ou 0 s r t pc:=by
 have hl:=hH.wl;have hn:=hH.sn;have hs:=hH.ss
 have hlen:(LH f).length=17:=rfl
 have hg:∀ k,k<17→gd (LH f) k=f k:=fun k hk=>by
  unfold LH
  rw[EW (by simpa using hk)];simp
 have ho:∀ k,k<5→gd (Ie W V.sv (LH f)) (V.st+k)=gd W (V.st+k):=fun k hk=>Qu (by omega) (by omega) (by omega)
 refine⟨⟨(ho 0 (by decide)).trans h5.s,(ho 1 (by decide)).trans h5.r,(ho 2 (by decide)).trans h5.t,(ho 3 (by decide)).trans h5.pc,(ho 4 (by decide)).trans h5.o⟩,hR,hw_put hH (by omega) (fun k hk=>by rw[hg k (by omega)];exact hf k (by omega)),.inl ⟨rfl,rfl⟩,fun k hk => ?_⟩
 by_cases e:V.sv≤k∧k<V.sv+17
 ·exact .inr (.inl ⟨e.1,e.2,hd⟩)
 exact .inr (.inr (Qu (by omega) (by omega) (by omega)))
def LdIs(V:HV)(W:List Int)(s r:Int)(f:Nat→Int)(dn:Int)(W':List Int):Prop:=(s=2∧f=NV V.q.Entry∧dn=V.q.Dx∧W'=(W.set V.st 0).set (V.st+1) (r+1))∨(¬ s=2∧f=(fun k=>gd W' (V.sv+k))∧dn=0∧W'=if s=1 then W.set V.st 0 else W)
theorem agn_yes{q:Aq}{r:Int}(h:IQ q r=true):q.Dx≠0∧r<q.A7:=of_decide_eq_true h
theorem pl_load(hH:Ko V W)(h5:S5 W V.st s r t pc ou)(hR:Rg V.q s r t pc ou){f:Nat→Int}{dn:Int}{W':List Int}(h:LdIs V W s r f dn W')(hd:o.Do=5):∃ s' r',Zaj V o W W' s r ou dn s' r' t pc:=by
 have hl:=hH.wl;have hn:=hH.sn;have h1:=hR.hr;have h3:=hH.rg.re
 rcases h with⟨hs, -,hdn,hW⟩ | ⟨hs, -,hdn,hW⟩
 ·have ha:=agn_yes (hR.ag hs)
  refine⟨0,r+1, ?_⟩
  subst hW
  have hl1:(W.set V.st 0).length=V.nW:=by rw[List.length_set];exact hl
  have g5:=s5_set hH h5 0
  refine⟨⟨by rw[IZ (by omega) (by omega)];exact g5.s,MG (by omega),by rw[IZ (by omega) (by omega)];exact g5.t,by rw[IZ (by omega) (by omega)];exact g5.pc,by rw[IZ (by omega) (by omega)];exact g5.o⟩,⟨by decide,by omega,hR.ht,hR.tp,hR.hpc,hR.ho,fun e=>absurd e (by decide)⟩,Zq (Zq hH (by decide)) (by omega),.inr ⟨hdn,rfl,ha.1,ha.2⟩,fun k hk => ?_⟩
  by_cases e:V.st≤k∧k<V.st+5
  ·exact .inl ⟨e.1,e.2,by omega,by omega⟩
  exact .inr (.inr (by rw[IZ (by omega) (by omega),IZ (by omega) (by omega)]))
 by_cases h1:s=1
 ·rw[if_pos h1]at hW
  subst hW;subst hdn
  exact⟨0,r,Za4 hH h5 hR (by decide) (by decide) (by omega)⟩
 rw[if_neg h1]at hW
 subst hW;subst hdn
 exact⟨s,r,pl_status hH h5 hR⟩
theorem wrap_nat(x:Int):∃ n:Nat,IntKind.u64.wrap x=(n:Int):=by
 refine⟨(IntKind.u64.wrap x).toNat,(Int.toNat_of_nonneg ?_).symm⟩
 have e:IntKind.u64.wrap x=x % 18446744073709551616:=by
  unfold IntKind.wrap
  simp only[IntKind.signed,Bool.false_and,Bool.false_eq_true,if_false]
  rfl
 rw[e];omega
end
section
variable (V:HV)(W:List Int)
abbrev Xo:Ch:= .blk V.dp (.cells #[i6 V.fr,.slice (some ⟨V.gV,0,none⟩) V.nP V.cV] 113 (0,0)) true
abbrev Xk:Ch:= .blk V.mq (.cells #[.slice (some ⟨V.gW,0,none⟩) V.nW V.cW] 106 (0,0)) true
abbrev XI:=BV V.n2 38 1 (fun x:Int=>[Value.int .u32 x]) (.slice (some ⟨V.gW,0,none⟩) V.nW V.cW) W
abbrev Xz:=BV V.n 81 10 Iw.cells (.slice (some ⟨V.gV,0,none⟩) V.nP V.cV) V.WS
abbrev RD:=(0,pt V.dp)
abbrev RI:=(1,pt V.mq)
abbrev Rx:=(2,Ac V.p)
end
theorem played_calls(w w0:World)(V:HV)(W:List Int)(hO:Sat ⟨w0,w.heap.size,KU V W⟩ w)(S0:Nat→Prop)(hS0:S0=JY (KU V W))(hn1:V.n≤w.heap.size)(hn2:V.n2≤w.heap.size)(hH:Ko V W)(s r t pc ou:Int)(h5:S5 W V.st s r t pc ou)(hR:Rg V.q s r t pc ou)(o:Ox)(ho:Ox.ok o):Calls Tryd.prog 7 #[.pointer (some ⟨V.dp,0,none⟩),.pointer (some ⟨V.mq,0,none⟩),.int .i64 (V.p:Int),.agg (Ox.arr o)] w fun e w'=>∃ (dn s' r' t' pc':Int) (W':List Int),e = .returned (.tuple #[.int .i64 dn,.bool true])∧Zaj V o W W' s r ou dn s' r' t' pc'∧Sat ⟨w,w'.heap.size,KU V W'⟩ w'∧Ce S0 w w':=by
 obtain⟨z,hz⟩:∃ z,z=w.heap.size:=⟨_,rfl⟩
 refine Bf (args:=[pt V.dp,pt V.mq,Ac V.p,.agg (Ox.arr o)]) 73 ⟨w,z,[(old S0 w),(Xo V),(Xz V),(Cm V.B V.WS V.QS),(Xk V),(XI V W)]⟩ Tryd.func7 rfl (by kernel_rfl) (by kernel_rfl) (hS0 ▸ hz ▸ O4 hO IB) ?_
 obtain⟨nu,hnu⟩:=wrap_nat o.Number;have how:=ho.Word
 refine Di [0,1,2,3] [(RD V),(RI V),(Rx V),(3,.agg (Ox.arr o))] ?_
 refine q_c 19 0 [] [[o0,o0,o0],[o0],[o0],[o0,(a1 6)]] [Qb z] [(RD V),(RI V),(Rx V),(7,pt z),(11,i6 0),(14,i6 o.Do)] ⟨w,z+1,[(old S0 w),(Xo V),(Xz V),(Cm V.B V.WS V.QS),(Xk V),(XI V W),(bk z (Ox.arr o) 43)]⟩ rfl ⟨rfl,Ae⟩ ?_
 by_cases h1:(o.Do:Int)=2
 ·refine Au 9 6 [1] [[oT,o0],[o0,(a1 6),(ov (.int .u64 (nu:Int))),(ov (.int .u64 ((nu % 6:Nat):Int))),(ov (i6 ((nu % 6:Nat):Int))),(ov (i6 ((1+(nu % 6):Nat):Int))),o0],[o0,o0,o0,o0,o0,(a1 6)]] [ET o.Do 2,Qb z,Value.int .u64 (IntKind.u64.wrap (o.Number))=Value.int .u64 ((nu:Int)),Value.int .u64 (Int.tmod ((nu:Int)) 6)=Value.int .u64 (((nu % 6:Nat):Int)),Wr (((nu % 6:Nat):Int)) (((nu % 6:Nat):Int)),Wr ((1:Int)+((nu % 6:Nat):Int)) (((1+(nu % 6):Nat):Int)),Qb z] [(11,i6 0),(31,pt V.dp),(32,pt V.mq),(33,Ac V.p),(34,i6 ((1+(nu % 6):Nat):Int)),(36,.int .u32 o.Word)] rfl ⟨et,rfl,congrArg (Value.int .u64) hnu,congrArg (Value.int .u64) (Zah (by omega) (by omega)),BP rfl,BP,rfl,Ae⟩ ?_
  refine l_call [] [] 9 #[pt V.dp,pt V.mq,Ac V.p,i6 ((1+(nu % 6):Nat):Int),.int .u32 o.Word] (some 37) Ae ?_
  intro w2 hw2
  have hq3:=hw2.pick [1,2,3,4,5] rfl rfl
  refine(trap_calls w2 w V W (by rw[hw2.size];exact hq3) _ rfl (by have:=hw2.size;simp only[]at this;omega) (by have:=hw2.size;simp only[]at this;omega) hH s r t pc ou h5 hR ((1+(nu % 6):Nat):Int) o.Word (by omega) ho.Word).mono ?_
  rintro e w4 ⟨rfl,hSw4,hkw4⟩
  have hnw4:z+1≤w4.heap.size:=Ef hw2 hkw4
  refine⟨_,_,rfl,hw2.turn [0,6] [1,2,3,4,5] rfl rfl rfl (by decide) (IB (V:=V)) hkw4 (fun c hc=>⟨hSw4.all c hc,hSw4.Kq c hc,fun b hb=>⟨hSw4.bnd c hc b hb,Oy c hc b hb⟩⟩) hSw4.Jq, ?_⟩
  refine AZ 8 0 [] [[o0,o0,o0,o0],[o0,o0,o0,o0,o0]] [] [(8,i6 0),(9,.bool true)] rfl Ae ?_
  refine Az [] [] (.tuple #[i6 0,.bool true]) Ae ?_
  intro w5 hw5
  have h4:=hw5.pick [2,3,4,5,6] rfl rfl
  (try dsimp only[Xo,Xk,XI,Xz,RD,RI,Rx]at h4)
  exact⟨0,_,r,_,o.Word,(Ie W V.st [if IQ V.q r=true then 2 else 3,r,((1+(nu % 6):Nat):Int),o.Word,ou]),rfl,pl_trap hH hR (by omega) ho.Word (by omega),by rw[hw5.size];exact h4,Sat.back hw5 rfl (show w.heap.size≤w4.heap.size by omega) (List.mem_cons_self ..)⟩
 refine Au 5 0 [0] [[oF,o0]] [EF o.Do 2] [(RD V),(RI V),(Rx V),(7,pt z),(11,i6 0),(14,i6 o.Do),(22,.bool false)] rfl ⟨ef,Ae⟩ ?_
 by_cases h6:(o.Do:Int)=3
 ·refine Au 5 3 [1] [[oT,o0],[o0,o0,o0]] [ET o.Do 3] [(11,i6 0),(42,pt V.dp),(43,pt V.mq),(44,Ac V.p)] rfl ⟨et,Ae⟩ ?_
  refine l_call [] [] 18 #[pt V.dp,pt V.mq,Ac V.p] (some 45) Ae ?_
  intro w7 hw7
  refine Bf (args:=[pt V.dp,pt V.mq,Ac V.p]) 11 ⟨w,z+1,[(old S0 w),(Xo V),(Xz V),(Cm V.B V.WS V.QS),(Xk V),(XI V W),(bk z (Ox.arr o) 43)]⟩ Tryd.func18 rfl (by kernel_rfl) (by kernel_rfl) hw7 ?_
  refine Au 6 3 [] [[o0],[o0,o0,o0]] [] [(7,pt V.dp),(8,pt V.mq),(9,Ac V.p)] rfl Ae ?_
  refine l_call [] [] 34 #[pt V.dp,pt V.mq,Ac V.p,.int .u32 1] (some 10) Ae ?_
  intro w8 hw8
  have hq9:=hw8.pick [1,2,3,4,5] rfl rfl
  refine(ZU w8 w V W (by rw[hw8.size];exact hq9) _ rfl (by have:=hw8.size;simp only[]at this;omega) (by have:=hw8.size;simp only[]at this;omega) hH s r t pc ou h5 hR 1 (by decide)).mono ?_
  rintro e w10 ⟨rfl,hSw10,hkw10⟩
  have hnw10:z+1≤w10.heap.size:=Ef hw8 hkw10
  refine⟨_,_,rfl,hw8.turn [0,6] [1,2,3,4,5] rfl rfl rfl (by decide) (IB (V:=V)) hkw10 (fun c hc=>⟨hSw10.all c hc,hSw10.Kq c hc,fun b hb=>⟨hSw10.bnd c hc b hb,Oy c hc b hb⟩⟩) hSw10.Jq, ?_⟩
  refine AZ 3 0 [] [[o0]] [] [(6,i6 0)] rfl Ae ?_
  refine Az [] [] (i6 0) Ae ?_
  intro w11 hw11
  refine⟨_,_,rfl,hw11, ?_⟩
  refine AZ 8 0 [] [[o0],[o0,o0,o0,o0,o0]] [] [(8,i6 0),(9,.bool true)] rfl Ae ?_
  refine Az [] [] (.tuple #[i6 0,.bool true]) Ae ?_
  intro w12 hw12
  have h4:=hw12.pick [2,3,4,5,6] rfl rfl
  (try dsimp only at h4)
  exact⟨0,_,r,t,pc,(W.set V.st 1),rfl,Za4 hH h5 hR (by decide) (by decide) (by omega),by rw[hw12.size];exact h4,Sat.back hw12 rfl (show w.heap.size≤w10.heap.size by omega) (List.mem_cons_self ..)⟩
 refine Au 5 0 [0] [[oF,o0]] [EF o.Do 3] [(RD V),(RI V),(Rx V),(7,pt z),(11,i6 0),(14,i6 o.Do),(40,.bool false)] rfl ⟨ef,Ae⟩ ?_
 by_cases h13:(o.Do:Int)=4
 ·refine Au 5 3 [1] [[oT,o0],[o0,o0,o0]] [ET o.Do 4] [(11,i6 0),(48,pt V.dp),(49,pt V.mq),(50,Ac V.p)] rfl ⟨et,Ae⟩ ?_
  refine l_call [] [] 19 #[pt V.dp,pt V.mq,Ac V.p] (some 51) Ae ?_
  intro w14 hw14
  refine Bf (args:=[pt V.dp,pt V.mq,Ac V.p]) 11 ⟨w,z+1,[(old S0 w),(Xo V),(Xz V),(Cm V.B V.WS V.QS),(Xk V),(XI V W),(bk z (Ox.arr o) 43)]⟩ Tryd.func19 rfl (by kernel_rfl) (by kernel_rfl) hw14 ?_
  refine Au 6 3 [] [[o0],[o0,o0,o0]] [] [(7,pt V.dp),(8,pt V.mq),(9,Ac V.p)] rfl Ae ?_
  refine l_call [] [] 34 #[pt V.dp,pt V.mq,Ac V.p,.int .u32 3] (some 10) Ae ?_
  intro w15 hw15
  have hq16:=hw15.pick [1,2,3,4,5] rfl rfl
  refine(ZU w15 w V W (by rw[hw15.size];exact hq16) _ rfl (by have:=hw15.size;simp only[]at this;omega) (by have:=hw15.size;simp only[]at this;omega) hH s r t pc ou h5 hR 3 (by decide)).mono ?_
  rintro e w17 ⟨rfl,hSw17,hkw17⟩
  have hnw17:z+1≤w17.heap.size:=Ef hw15 hkw17
  refine⟨_,_,rfl,hw15.turn [0,6] [1,2,3,4,5] rfl rfl rfl (by decide) (IB (V:=V)) hkw17 (fun c hc=>⟨hSw17.all c hc,hSw17.Kq c hc,fun b hb=>⟨hSw17.bnd c hc b hb,Oy c hc b hb⟩⟩) hSw17.Jq, ?_⟩
  refine AZ 3 0 [] [[o0]] [] [(6,i6 0)] rfl Ae ?_
  refine Az [] [] (i6 0) Ae ?_
  intro w18 hw18
  refine⟨_,_,rfl,hw18, ?_⟩
  refine AZ 8 0 [] [[o0],[o0,o0,o0,o0,o0]] [] [(8,i6 0),(9,.bool true)] rfl Ae ?_
  refine Az [] [] (.tuple #[i6 0,.bool true]) Ae ?_
  intro w19 hw19
  have h4:=hw19.pick [2,3,4,5,6] rfl rfl
  (try dsimp only at h4)
  exact⟨0,_,r,t,pc,(W.set V.st 3),rfl,Za4 hH h5 hR (by decide) (by decide) (by omega),by rw[hw19.size];exact h4,Sat.back hw19 rfl (show w.heap.size≤w17.heap.size by omega) (List.mem_cons_self ..)⟩
 refine Au 5 0 [0] [[oF,o0]] [EF o.Do 4] [(RD V),(RI V),(Rx V),(7,pt z),(11,i6 0),(14,i6 o.Do),(46,.bool false)] rfl ⟨ef,Ae⟩ ?_
 by_cases h20:(o.Do:Int)=5
 ·refine Au 5 3 [1] [[oT,o0],[o0,o0,o0]] [ET o.Do 5] [(55,pt V.dp),(56,pt V.mq),(57,Ac V.p)] rfl ⟨et,Ae⟩ ?_
  refine l_call [] [] 10 #[pt V.dp,pt V.mq,Ac V.p] (some 58) Ae ?_
  intro w21 hw21
  have hq22:=hw21.pick [1,2,3,4,5] rfl rfl
  refine(WB w21 w V W (by rw[hw21.size];exact hq22) _ rfl (by have:=hw21.size;simp only[]at this;omega) (by have:=hw21.size;simp only[]at this;omega) hH s r t pc ou h5 hR).mono ?_
  rintro e w23 ⟨fn24,dn25,Wn26,rfl,hldw23,hSw23,hkw23⟩
  have hnw23:z+1≤w23.heap.size:=Ef hw21 hkw23
  refine⟨_,_,rfl,hw21.turn [0,6] [1,2,3,4,5] rfl rfl rfl (by decide) (IB (V:=V)) hkw23 (fun c hc=>⟨hSw23.all c hc,hSw23.Kq c hc,fun b hb=>⟨hSw23.bnd c hc b hb,Oy c hc b hb⟩⟩) hSw23.Jq, ?_⟩
  refine AZ 8 0 [] [[o0,o0,o0,o0,o0,o0],[o0,o0,o0,o0,o0]] [] [(8,i6 dn25),(9,.bool true)] rfl Ae ?_
  refine Az [] [] (.tuple #[i6 dn25,.bool true]) Ae ?_
  intro w27 hw27
  obtain⟨sn,rn,hpl⟩:=pl_load (o:=o) hH h5 hR hldw23 h20
  have h4:=hw27.pick [2,3,4,5,6] rfl rfl
  (try dsimp only[RD,RI,Rx]at h4)
  exact⟨dn25,sn,rn,t,pc,Wn26,rfl,hpl,by rw[hw27.size];exact h4,Sat.back hw27 rfl (show w.heap.size≤w23.heap.size by omega) (List.mem_cons_self ..)⟩
 refine Au 5 0 [0] [[oF,o0]] [EF o.Do 5] [(RD V),(RI V),(Rx V),(7,pt z),(11,i6 0),(14,i6 o.Do),(52,.bool false)] rfl ⟨ef,Ae⟩ ?_
 by_cases h28:(o.Do:Int)=6
 ·refine Au 5 5 [1] [[oT,o0],[o0,o0,o0,o0,(an 17 6)]] [ET o.Do 6,Qb z,Qb z,Qb z,Qb z,Qb z,Qb z,Qb z,Qb z,Qb z,Qb z,Qb z,Qb z,Qb z,Qb z,Qb z,Qb z,Qb z] [(11,i6 0),(64,pt V.dp),(65,pt V.mq),(66,Ac V.p),(68,.agg #[.int .u32 (o.x 0),.int .u32 (o.x 1),.int .u32 (o.x 2),.int .u32 (o.x 3),.int .u32 (o.x 4),.int .u32 (o.x 5),.int .u32 (o.x 6),.int .u32 (o.x 7),.int .u32 (o.x 8),.int .u32 (o.x 9),.int .u32 (o.x 10),.int .u32 (o.x 11),.int .u32 (o.x 12),.int .u32 (o.x 13),.int .u32 (o.x 14),.int .u32 (o.x 15),.int .u32 (o.x 16)])] rfl ⟨et,rfl,rfl,rfl,rfl,rfl,rfl,rfl,rfl,rfl,rfl,rfl,rfl,rfl,rfl,rfl,rfl,rfl,Ae⟩ ?_
  refine l_call [] [] 11 #[pt V.dp,pt V.mq,Ac V.p,.agg #[.int .u32 (o.x 0),.int .u32 (o.x 1),.int .u32 (o.x 2),.int .u32 (o.x 3),.int .u32 (o.x 4),.int .u32 (o.x 5),.int .u32 (o.x 6),.int .u32 (o.x 7),.int .u32 (o.x 8),.int .u32 (o.x 9),.int .u32 (o.x 10),.int .u32 (o.x 11),.int .u32 (o.x 12),.int .u32 (o.x 13),.int .u32 (o.x 14),.int .u32 (o.x 15),.int .u32 (o.x 16)]] (some 69) Ae ?_
  intro w29 hw29
  have hq30:=hw29.pick [1,2,3,4,5] rfl rfl
  refine(Wi w29 w V W (by rw[hw29.size];exact hq30) _ rfl (by have:=hw29.size;simp only[]at this;omega) (by have:=hw29.size;simp only[]at this;omega) hH o.x).mono ?_
  rintro e w31 ⟨rfl,hSw31,hkw31⟩
  have hnw31:z+1≤w31.heap.size:=Ef hw29 hkw31
  refine⟨_,_,rfl,hw29.turn [0,6] [1,2,3,4,5] rfl rfl rfl (by decide) (IB (V:=V)) hkw31 (fun c hc=>⟨hSw31.all c hc,hSw31.Kq c hc,fun b hb=>⟨hSw31.bnd c hc b hb,Oy c hc b hb⟩⟩) hSw31.Jq, ?_⟩
  refine AZ 8 0 [] [[o0],[o0,o0,o0,o0,o0]] [] [(8,i6 0),(9,.bool true)] rfl Ae ?_
  refine Az [] [] (.tuple #[i6 0,.bool true]) Ae ?_
  intro w32 hw32
  have h4:=hw32.pick [2,3,4,5,6] rfl rfl
  (try dsimp only[RD,RI,Rx]at h4)
  exact⟨0,s,r,t,pc,(Ie W V.sv (LH o.x)),rfl,pl_save hH h5 hR ho.x h28,by rw[hw32.size];exact h4,Sat.back hw32 rfl (show w.heap.size≤w31.heap.size by omega) (List.mem_cons_self ..)⟩
 refine Au 5 3 [0] [[oF,o0],[o0,o0,o0]] [EF o.Do 6] [(11,i6 0),(16,pt V.dp),(17,pt V.mq),(18,Ac V.p)] rfl ⟨ef,Ae⟩ ?_
 refine l_call [] [] 8 #[pt V.dp,pt V.mq,Ac V.p] (some 19) Ae ?_
 intro w33 hw33
 have hq34:=hw33.pick [1,2,3,4,5] rfl rfl
 refine(X6 w33 w V W (by rw[hw33.size];exact hq34) _ rfl (by have:=hw33.size;simp only[]at this;omega) (by have:=hw33.size;simp only[]at this;omega) hH s r t pc ou h5 hR).mono ?_
 rintro e w35 ⟨rfl,hSw35,hkw35⟩
 have hnw35:z+1≤w35.heap.size:=Ef hw33 hkw35
 refine⟨_,_,rfl,hw33.turn [0,6] [1,2,3,4,5] rfl rfl rfl (by decide) (IB (V:=V)) hkw35 (fun c hc=>⟨hSw35.all c hc,hSw35.Kq c hc,fun b hb=>⟨hSw35.bnd c hc b hb,Oy c hc b hb⟩⟩) hSw35.Jq, ?_⟩
 refine AZ 8 0 [] [[o0,o0,o0,o0],[o0,o0,o0,o0,o0]] [] [(8,i6 0),(9,.bool true)] rfl Ae ?_
 refine Az [] [] (.tuple #[i6 0,.bool true]) Ae ?_
 intro w36 hw36
 have h4:=hw36.pick [2,3,4,5,6] rfl rfl
 (try dsimp only at h4)
 exact⟨0,s,r,t,pc,W,rfl,pl_status hH h5 hR,by rw[hw36.size];exact h4,Sat.back hw36 rfl (show w.heap.size≤w35.heap.size by omega) (List.mem_cons_self ..)⟩
open Go.ChangeShapes Go.WideShapes Go.Deep
theorem rd_arrI{P:Program}{t e:TypeId}{n:Nat}{k0:IntKind}(ht:P.underlying t=some (.array n e))(he:P.underlying e=some (.int k0))(hc:P.cellsOf e=1)(hl:P.cellsOf t=n) :
   Rd P t (fun f:Nat→Int=>(List.range n).map fun k=>Value.int k0 (f k)) (fun _ _ f=>∀ k,k<n→IG k0 (f k)):=by
 intro H enc W fuel cs x hx hw
 obtain⟨xs,m, -,rfl,hcl,hlen,hf⟩:=DataW.trod_array ht hx
 have hY:∀ i,i<n→∃ y:Int,(cs.drop i).take 1=[Value.int k0 y]∧IG k0 y:=by
   intro i hi
   have h1:=hf i hi
   rw[hc,Nat.mul_one,List.getElem?_eq_getElem (by omega)]at h1
   exact I7 he H enc W m _ _ h1 (fun q hq=>hw q (by
     simp only[DataW.weights,ht]
     exact weightsAll_mem (d:=(xs[i]'(by omega)).1) (List.mem_map_of_mem (List.getElem_mem _)) q hq))
 obtain⟨Y,hY⟩:=choose_lt hY
 refine⟨Y, ?_,fun k hk=>(hY k hk).2⟩
 have hn:cs.length=n:=by rw[hcl,hl]
 apply List.ext_getElem
 · simp[hn]
 · intro i h1 h2
   have h3:=(hY i (by omega)).1
   have h4:((cs.drop i).take 1)[0]? = some (Value.int k0 (Y i)):=by rw[h3];rfl
   rw[List.getElem?_take,if_pos (by decide),List.getElem?_drop,Nat.add_zero,List.getElem?_eq_getElem h1]at h4
   rw[Option.some.inj h4];simp
theorem rd_Ctx:Rd Tryd.prog 41 (fun f:Nat→Int=>(List.range 17).map fun k=>Value.int .u32 (f k)) (fun _ _ f=>∀ k,k<17→0≤f k∧f k<4294967296):=by
 intro H enc W fuel cs x hx hw
 obtain⟨xs,n, -,rfl,hl,hlen,hf⟩:=DataW.trod_struct Tryd.underlying41 hx
 rw[show Tryd.prog.cellsOf 41=17 from by kernel_rfl]at hl
 obtain⟨y0,e0,k0⟩:=EN Tryd.underlying41 hlen hf hw 0 0 16 _ rfl rfl (by kernel_rfl) (rd_arrI Tryd.underlying39 Tryd.underlying38 (by kernel_rfl) (by kernel_rfl))
 obtain⟨y1,e1,k1⟩:=EN Tryd.underlying41 hlen hf hw 1 16 1 _ rfl rfl (by kernel_rfl) (I7 Tryd.underlying38)
 refine⟨fun k=>if k<16 then y0 k else y1, ?_,fun k hk => ?_⟩
 ·have hcs:cs=(cs.drop 0).take 16++(cs.drop 16).take 1:=by
   rw[List.drop_zero,show(cs.drop 16).take 1=cs.drop 16 from List.take_of_length_le (by rw[List.length_drop];omega),List.take_append_drop]
  rw[hcs,e0,e1];rfl
 show 0≤(if k<16 then y0 k else y1)∧(if k<16 then y0 k else y1)<4294967296
 by_cases h:k<16
 ·rw[if_pos h];have k2:0≤y0 k∧y0 k≤4294967295:=k0 k h;omega
 rw[if_neg h];have k2:0≤y1∧y1≤4294967295:=k1;omega
theorem rd_TOp:Rd Tryd.prog 43 Ox.cells (fun _ _ x=>Ox.ok x):=by
 intro H enc W fuel cs x hx hw
 obtain⟨xs,n, -,rfl,hl,hlen,hf⟩:=DataW.trod_struct Tryd.underlying43 hx
 rw[show Tryd.prog.cellsOf 43=23 from by kernel_rfl]at hl
 obtain⟨y0,e0,k0⟩:=EN Tryd.underlying43 hlen hf hw 0 0 1 _ rfl rfl (by kernel_rfl) (I7 Tryd.underlying3)
 obtain⟨y1,e1,k1⟩:=EN Tryd.underlying43 hlen hf hw 1 1 1 _ rfl rfl (by kernel_rfl) (I7 Tryd.underlying3)
 obtain⟨y2,e2,k2⟩:=EN Tryd.underlying43 hlen hf hw 2 2 1 _ rfl rfl (by kernel_rfl) (I7 Tryd.underlying3)
 obtain⟨y3,e3,k3⟩:=EN Tryd.underlying43 hlen hf hw 3 3 1 _ rfl rfl (by kernel_rfl) (I7 Tryd.underlying38)
 obtain⟨y4,e4,k4⟩:=EN Tryd.underlying43 hlen hf hw 4 4 17 _ rfl rfl (by kernel_rfl) rd_Ctx
 obtain⟨y5,e5,k5⟩:=EN Tryd.underlying43 hlen hf hw 5 21 1 _ rfl rfl (by kernel_rfl) (Zaq Tryd.underlying4)
 obtain⟨y6,e6,k6⟩:=EN Tryd.underlying43 hlen hf hw 6 22 1 _ rfl rfl (by kernel_rfl) (Zaq Tryd.underlying4)
 have j3:0≤y3∧y3≤4294967295:=k3
 refine⟨⟨y0,y1,y2,y3,y4,y5,y6⟩, ?_,⟨k2,by show 0≤y3∧y3<4294967296;omega,k4⟩⟩
 have hcs:cs=(cs.drop 0).take 1++((cs.drop 1).take 1++((cs.drop 2).take 1++((cs.drop 3).take 1++((cs.drop 4).take 17++((cs.drop 21).take 1++(cs.drop 22).take 1))))):=by
  have st:∀ (a b:Nat),(cs.drop a).take b++cs.drop (a+b)=cs.drop a:=fun a b=>by rw[←List.drop_drop,List.take_append_drop]
  rw[show(cs.drop 22).take 1=cs.drop 22 from List.take_of_length_le (by rw[List.length_drop];omega)]
  rw[st 21 1,st 4 17,st 3 1,st 2 1,st 1 1,st 0 1,List.drop_zero]
 rw[hcs,e0,e1,e2,e3,e4,e5,e6];rfl
end Go.Proofs.YtlccogilgegnfaaDoor.Hx
namespace Go.Proofs.YtlccogilgegnfaaDoor.Ad
open Go Go.Proofs.YtlccogilgegnfaaDoor.Eng Go.Proofs.YtlccogilgegnfaaDoor.Mem Go.Proofs.YtlccogilgegnfaaDoor.Ly
set_option linter.unusedSimpArgs false
set_option linter.unusedVariables false
set_option maxRecDepth 100000
theorem V3(bs:ByteArray):∀ (n i:Nat) (r:List UInt8),bs.size - i=n→(ByteArray.toList.loop bs i r).length=n+r.length
 | 0,i,r,h=>by
  unfold ByteArray.toList.loop
  rw[if_neg (by omega)];simp
 | n+1,i,r,h=>by
  unfold ByteArray.toList.loop
  rw[if_pos (by omega),V3 bs n (i+1) _ (by omega)]
  simp;omega
theorem str_nil{s:ByteArray}(h:s.toList=(⟨#[]⟩:ByteArray).toList):s.size=0:=by
 have h1:=congrArg List.length h
 unfold ByteArray.toList at h1
 rw[V3 s s.size 0 [] (by omega),V3 (⟨#[]⟩:ByteArray) 0 0 [] (by rfl)]at h1
 simpa using h1
theorem str_pos{s:ByteArray}(h:¬ s.toList=(⟨#[]⟩:ByteArray).toList):0<s.size:=by
 rcases Nat.eq_zero_or_pos s.size with h0 | h0
 ·exfalso
  apply h
  have h1:=V3 s s.size 0 [] (by omega)
  have h2:=V3 (⟨#[]⟩:ByteArray) 0 0 [] (by rfl)
  unfold ByteArray.toList
  rw[h0]at h1
  rw[List.eq_nil_of_length_eq_zero h1,List.eq_nil_of_length_eq_zero h2]
 exact h0
def Gp(c:Ai):Am:=AY [Gi c,whole2 c,Gq c,Gm c,FC c]
def Nz(x:Aq):Bool:=win x.Entry 0 4095&&Gh x
theorem split_ref{c:Ai}{k:Nat}{p:Int}(hp : -1≤p):Ip c k p=(List.range k).any (fun i=>(List.range (DU c i).xs.length).any (fun n => !decide (p = -1)&&decide ((gd (DU c i).xs n).Partition=p))):=by
 unfold Ip Zd
 congr 1
 funext i
 congr 1
 funext n
 rw[show decide (0≤p) = !decide (p = -1)from by by_cases h:p = -1 <;> simp[h];omega]
theorem Gj(w:World)(n a b:Int):Calls Tryd.prog 79 #[.int .i64 n,.int .i64 a,.int .i64 b] w fun e w'=>e = .returned (.bool (win n a b))∧Ce (fun _=>False) w w':=by
 obtain⟨z,hz⟩:∃ z,z=w.heap.size:=⟨_,rfl⟩
 refine Bf (args:=[i6 n,i6 a,i6 b]) 15 ⟨w,z,[(Ak w)]⟩ Tryd.func79 rfl (by kernel_rfl) (by kernel_rfl) (Ed hz) ?_
 refine Di [0,1,2] [(0,i6 n),(1,i6 a),(2,i6 b)] ?_
 refine Au 5 0 [] [[o0]] [] [(0,i6 n),(1,i6 a),(2,i6 b)] rfl Ae ?_
 by_cases h1:(n:Int)<a
 ·refine Au 4 0 [] [[o0,o0,oF,o0,o0,o0]] [BF ((n:Int)≥a)] [(6,.bool false)] rfl ⟨bf,Ae⟩ ?_
  refine Az [] [] (.bool false) Ae ?_
  intro w2 hw2
  refine⟨congrArg Ending.returned (?_:Value.bool false = .bool (win n a b)),AB hw2⟩
  unfold win;congr 1;simp;omega
 by_cases h3:(b:Int)<n
 ·refine Au 4 0 [] [[o0,o0,oT,o0,o0,o0,oF,o0,o0]] [BT ((n:Int)≥a),BF ((n:Int)≤b)] [(6,.bool false)] rfl ⟨bt,bf,Ae⟩ ?_
  refine Az [] [] (.bool false) Ae ?_
  intro w4 hw4
  refine⟨congrArg Ending.returned (?_:Value.bool false = .bool (win n a b)),AB hw4⟩
  unfold win;congr 1;simp;omega
 refine Au 4 0 [] [[o0,o0,oT,o0,o0,o0,oT,o0,o0]] [BT ((n:Int)≥a),BT ((n:Int)≤b)] [(6,.bool true)] rfl ⟨bt,bt,Ae⟩ ?_
 refine Az [] [] (.bool true) Ae ?_
 intro w5 hw5
 refine⟨congrArg Ending.returned (?_:Value.bool true = .bool (win n a b)),AB hw5⟩
 unfold win;congr 1;simp;omega
theorem YN(w:World)  : Calls Tryd.prog 55 #[] w fun e w'=>e = .returned (.agg #[.int .i64 (-1),.int .i64 (-1)])∧Ce (fun _=>False) w w':=by
 obtain⟨z,hz⟩:∃ z,z=w.heap.size:=⟨_,rfl⟩
 refine Bf (args:=[]) 2 ⟨w,z,[(Ak w)]⟩ Tryd.func55 rfl (by kernel_rfl) (by kernel_rfl) (Ed hz) ?_
 refine Di [] [] ?_
 refine q_c 9 0 [] [[o0],[o0,(an 2 1)]] [Qb z,Qb z] [(0,pt z)] ⟨w,z+1,[(Ak w),(bk z #[i6 (-1),i6 (-1)] 108)]⟩ rfl ⟨rfl,rfl,Ae⟩ ?_
 refine Az [.at 1,.at 1] [Qb z,Qb z] (.agg #[i6 (-1),i6 (-1)]) ⟨rfl,rfl,Ae⟩ ?_
 intro w1 hw1
 refine⟨congrArg Ending.returned (?_:Value.agg #[i6 (-1),i6 (-1)] = .agg #[i6 (-1),i6 (-1)]),AB hw1⟩
 rfl
theorem JW(w:World)(n:Int):Calls Tryd.prog 58 #[.int .i64 n] w fun e w'=>e = .returned (.agg #[.int .i64 n,.int .i64 (-1)])∧Ce (fun _=>False) w w':=by
 obtain⟨z,hz⟩:∃ z,z=w.heap.size:=⟨_,rfl⟩
 refine Bf (args:=[i6 n]) 5 ⟨w,z,[(Ak w)]⟩ Tryd.func58 rfl (by kernel_rfl) (by kernel_rfl) (Ed hz) ?_
 refine Di [0] [(0,i6 n)] ?_
 refine q_c 9 0 [] [[o0],[o0,o0,(an 2 1)]] [Qb z,Qb z] [(2,pt z)] ⟨w,z+1,[(Ak w),(bk z #[i6 n,i6 (-1)] 108)]⟩ rfl ⟨rfl,rfl,Ae⟩ ?_
 refine Az [.at 1,.at 1] [Qb z,Qb z] (.agg #[i6 n,i6 (-1)]) ⟨rfl,rfl,Ae⟩ ?_
 intro w1 hw1
 refine⟨congrArg Ending.returned (?_:Value.agg #[i6 n,i6 (-1)] = .agg #[i6 n,i6 (-1)]),AB hw1⟩
 rfl
theorem SQ(w:World)(a m b o:Int)(h1 : -4611686018427387904≤a∧a≤4611686018427387903)(h2 : -4611686018427387904≤m∧m≤4611686018427387903)(h3 : -4611686018427387904≤b∧b≤4611686018427387903)(h4 : -4611686018427387904≤o∧o≤4611686018427387903):Calls Tryd.prog 85 #[.int .i64 a,.int .i64 m,.int .i64 b,.int .i64 o] w fun e w'=>e = .returned (.bool (meet a m b o))∧Ce (fun _=>False) w w':=by
 obtain⟨z,hz⟩:∃ z,z=w.heap.size:=⟨_,rfl⟩
 refine Bf (args:=[i6 a,i6 m,i6 b,i6 o]) 21 ⟨w,z,[(Ak w)]⟩ Tryd.func85 rfl (by kernel_rfl) (by kernel_rfl) (Ed hz) ?_
 refine Di [0,1,2,3] [(0,i6 a),(1,i6 m),(2,i6 b),(3,i6 o)] ?_
 refine Au 5 0 [] [[o0]] [] [(0,i6 a),(1,i6 m),(2,i6 b),(3,i6 o)] rfl Ae ?_
 by_cases h1:(a:Int)<b+o
 ·by_cases h2:(b:Int)<a+m
  ·refine Au 4 0 [] [[o0,o0,o0,(ov (i6 (b+o))),oT,o0,o0,o0,o0,(ov (i6 (a+m))),oT,o0,o0]] [Wr ((b:Int)+o) (b+o),BT ((a:Int)<(b+o)),Wr ((a:Int)+m) (a+m),BT ((b:Int)<(a+m))] [(8,.bool true)] rfl ⟨BP,bt,BP,bt,Ae⟩ ?_
   refine Az [] [] (.bool true) Ae ?_
   intro w3 hw3
   refine⟨congrArg Ending.returned (?_:Value.bool true = .bool (meet a m b o)),AB hw3⟩
   unfold meet;congr 1;simp;omega
  refine Au 4 0 [] [[o0,o0,o0,(ov (i6 (b+o))),oT,o0,o0,o0,o0,(ov (i6 (a+m))),oF,o0,o0]] [Wr ((b:Int)+o) (b+o),BT ((a:Int)<(b+o)),Wr ((a:Int)+m) (a+m),BF ((b:Int)<(a+m))] [(8,.bool false)] rfl ⟨BP,bt,BP,bf,Ae⟩ ?_
  refine Az [] [] (.bool false) Ae ?_
  intro w4 hw4
  refine⟨congrArg Ending.returned (?_:Value.bool false = .bool (meet a m b o)),AB hw4⟩
  unfold meet;congr 1;simp;omega
 refine Au 4 0 [] [[o0,o0,o0,(ov (i6 (b+o))),oF,o0,o0,o0]] [Wr ((b:Int)+o) (b+o),BF ((a:Int)<(b+o))] [(8,.bool false)] rfl ⟨BP,bf,Ae⟩ ?_
 refine Az [] [] (.bool false) Ae ?_
 intro w5 hw5
 refine⟨congrArg Ending.returned (?_:Value.bool false = .bool (meet a m b o)),AB hw5⟩
 unfold meet;congr 1;simp;omega
theorem rwhole_calls(w:World)(c:Ai)(hc:Ai.ok Any w c):Calls Tryd.prog 54 #[.agg (Ai.arr c)] w fun e w'=>e = .returned (.int .i64 (Gp c).e)∧Ce (fun _=>False) w w':=by
 obtain⟨z,hz⟩:∃ z,z=w.heap.size:=⟨_,rfl⟩
 refine Bf (args:=[.agg (Ai.arr c)]) 30 ⟨w,z,[(Ak w)]⟩ Tryd.func54 rfl (by kernel_rfl) (by kernel_rfl) (Ed hz) ?_
 have hpl:=hc.Aa.1.len;have hpc:=hc.Bc.1.len;have hpch:=hc.Aj.1.len
 refine Di [0] [(0,.agg (Ai.arr c))] ?_
 refine q_c 8 2 [] [[o0,o0],[o0,(a1 1)]] [Qb z] [(1,pt z),(5,i6 c.Frames)] ⟨w,z+1,[(Ak w),(bk z (Ai.arr c) 26)]⟩ rfl ⟨rfl,Ae⟩ ?_
 refine Ba 79 #[i6 c.Frames,i6 1,i6 1024] (some 6) (.bool (win c.Frames 1 1024)) (fun w1 hw1=>Gj w1 c.Frames 1 1024) (fun n2 (hn3:z+1≤n2) => ?_)
 refine Dh [1,6] [(1,pt z),(6,.bool (win c.Frames 1 1024))] ?_
 by_cases h4:(win c.Frames 1 1024)=true
 ·have hd5:=Dz h4
  refine AZ 5 2 [0] [[(ov (.bool false)),o0],[o0,(a1 1)]] [Value.bool (!(win c.Frames 1 1024))=Value.bool false,Qb z] [(1,pt z),(10,i6 c.Gg)] rfl ⟨by simp[h4],rfl,Ae⟩ ?_
  refine Ba 79 #[i6 c.Gg,i6 1,i6 16384] (some 11) (.bool (win c.Gg 1 16384)) (fun w6 hw6=>Gj w6 c.Gg 1 16384) (fun n7 (hn8:n2≤n7) => ?_)
  refine Dh [1,11] [(1,pt z),(11,.bool (win c.Gg 1 16384))] ?_
  by_cases h9:(win c.Gg 1 16384)=true
  ·have hd10:=Dz h9
   refine AZ 5 3 [0] [[(ov (.bool false)),o0],[o0,(a1 1),o0]] [Value.bool (!(win c.Gg 1 16384))=Value.bool false,Qb z] [(1,pt z),(16,Ac c.Bc.xs.length)] rfl ⟨by simp[h9],rfl,Ae⟩ ?_
   refine Ba 79 #[(Ac c.Bc.xs.length),i6 1,i6 4] (some 17) (.bool (win (c.Bc.xs.length:Int) 1 4)) (fun w11 hw11=>Gj w11 (c.Bc.xs.length:Int) 1 4) (fun n12 (hn13:n7≤n12) => ?_)
   refine Dh [1,17] [(1,pt z),(17,.bool (win (c.Bc.xs.length:Int) 1 4))] ?_
   by_cases h14:(win (c.Bc.xs.length:Int) 1 4)=true
   ·have hd15:=Dz h14
    refine AZ 5 3 [0] [[(ov (.bool false)),o0],[o0,(a1 1),o0]] [Value.bool (!(win (c.Bc.xs.length:Int) 1 4))=Value.bool false,Qb z] [(1,pt z),(22,Ac c.Aa.xs.length)] rfl ⟨by simp[h14],rfl,Ae⟩ ?_
    refine Ba 79 #[(Ac c.Aa.xs.length),i6 1,i6 8] (some 23) (.bool (win (c.Aa.xs.length:Int) 1 8)) (fun w16 hw16=>Gj w16 (c.Aa.xs.length:Int) 1 8) (fun n17 (hn18:n12≤n17) => ?_)
    refine Dh [1,23] [(1,pt z),(23,.bool (win (c.Aa.xs.length:Int) 1 8))] ?_
    by_cases h19:(win (c.Aa.xs.length:Int) 1 8)=true
    ·have hd20:=Dz h19
     refine AZ 4 0 [0] [[(ov (.bool false)),o0]] [Value.bool (!(win (c.Aa.xs.length:Int) 1 8))=Value.bool false] [(1,pt z),(19,.bool false)] rfl ⟨by simp[h19],Ae⟩ ?_
     by_cases h21:(16:Int)<(c.Aj.xs.length:Int)
     ·refine Au 9 0 [1] [[o0,(a1 1),o0,oT,o0],[o0]] [Qb z,BT ((c.Aj.xs.length:Int) > 16)] [(2,i6 404)] rfl ⟨rfl,bt,Ae⟩ ?_
      refine Az [] [] (i6 404) Ae ?_
      intro w22 hw22
      have hE:(Gp c).e=404:=by unfold Gp Gi whole2 Gq Gm FC;first | (rw[decide_eq_true (by omega)];simp[AY,Af,AQ,h4,h9,h14,h19]) | (rw[decide_eq_false (by omega)];simp[AY,Af,AQ,h4,h9,h14,h19]) | simp[AY,Af,AQ,h4,h9,h14,h19]
      exact⟨congrArg (fun n=>Ending.returned (i6 n)) hE.symm,AB hw22⟩
     refine Au 12 0 [0] [[o0,(a1 1),o0,oF,o0],[o0]] [Qb z,BF ((c.Aj.xs.length:Int) > 16)] [(2,i6 0)] rfl ⟨rfl,bf,Ae⟩ ?_
     refine Az [] [] (i6 0) Ae ?_
     intro w23 hw23
     have hE:(Gp c).e=0:=by unfold Gp Gi whole2 Gq Gm FC;first | (rw[decide_eq_true (by omega)];simp[AY,Af,AQ,h4,h9,h14,h19]) | (rw[decide_eq_false (by omega)];simp[AY,Af,AQ,h4,h9,h14,h19]) | simp[AY,Af,AQ,h4,h9,h14,h19]
     exact⟨congrArg (fun n=>Ending.returned (i6 n)) hE.symm,AB hw23⟩
    have hd24:=FI h19
    refine AZ 8 0 [1] [[(ov (.bool true)),o0],[o0]] [Value.bool (!(win (c.Aa.xs.length:Int) 1 8))=Value.bool true] [(2,i6 403)] rfl ⟨by simp[h19],Ae⟩ ?_
    refine Az [] [] (i6 403) Ae ?_
    intro w25 hw25
    have hE:(Gp c).e=403:=by unfold Gp Gi whole2 Gq Gm FC;first | (rw[decide_eq_true (by omega)];simp[AY,Af,AQ,h4,h9,h14,h19]) | (rw[decide_eq_false (by omega)];simp[AY,Af,AQ,h4,h9,h14,h19]) | simp[AY,Af,AQ,h4,h9,h14,h19]
    exact⟨congrArg (fun n=>Ending.returned (i6 n)) hE.symm,AB hw25⟩
   have hd26:=FI h14
   refine AZ 8 0 [1] [[(ov (.bool true)),o0],[o0]] [Value.bool (!(win (c.Bc.xs.length:Int) 1 4))=Value.bool true] [(2,i6 402)] rfl ⟨by simp[h14],Ae⟩ ?_
   refine Az [] [] (i6 402) Ae ?_
   intro w27 hw27
   have hE:(Gp c).e=402:=by unfold Gp Gi whole2 Gq Gm FC;first | (rw[decide_eq_true (by omega)];simp[AY,Af,AQ,h4,h9,h14]) | (rw[decide_eq_false (by omega)];simp[AY,Af,AQ,h4,h9,h14]) | simp[AY,Af,AQ,h4,h9,h14]
   exact⟨congrArg (fun n=>Ending.returned (i6 n)) hE.symm,AB hw27⟩
  have hd28:=FI h9
  refine AZ 8 0 [1] [[(ov (.bool true)),o0],[o0]] [Value.bool (!(win c.Gg 1 16384))=Value.bool true] [(2,i6 401)] rfl ⟨by simp[h9],Ae⟩ ?_
  refine Az [] [] (i6 401) Ae ?_
  intro w29 hw29
  have hE:(Gp c).e=401:=by unfold Gp Gi whole2 Gq Gm FC;first | (rw[decide_eq_true (by omega)];simp[AY,Af,AQ,h4,h9]) | (rw[decide_eq_false (by omega)];simp[AY,Af,AQ,h4,h9]) | simp[AY,Af,AQ,h4,h9]
  exact⟨congrArg (fun n=>Ending.returned (i6 n)) hE.symm,AB hw29⟩
 have hd30:=FI h4
 refine AZ 8 0 [1] [[(ov (.bool true)),o0],[o0]] [Value.bool (!(win c.Frames 1 1024))=Value.bool true] [(2,i6 400)] rfl ⟨by simp[h4],Ae⟩ ?_
 refine Az [] [] (i6 400) Ae ?_
 intro w31 hw31
 have hE:(Gp c).e=400:=by unfold Gp Gi whole2 Gq Gm FC;first | (rw[decide_eq_true (by omega)];simp[AY,Af,AQ,h4]) | (rw[decide_eq_false (by omega)];simp[AY,Af,AQ,h4]) | simp[AY,Af,AQ,h4]
 exact⟨congrArg (fun n=>Ending.returned (i6 n)) hE.symm,AB hw31⟩
section
variable (k:Nat)
abbrev UC:=(3,i6 ((k+1:Nat):Int))
end
theorem risName_calls(w:World)(s:ByteArray)(hs:s.size≤140737488351232):Calls Tryd.prog 97 #[.string s] w fun e w'=>e = .returned (.bool (Ez s))∧Ce (fun _=>False) w w':=by
 obtain⟨z,hz⟩:∃ z,z=w.heap.size:=⟨_,rfl⟩
 refine Bf (args:=[.string s]) 49 ⟨w,z,[(Ak w)]⟩ Tryd.func97 rfl (by kernel_rfl) (by kernel_rfl) (Ed hz) ?_
 refine Di [0] [(0,.string s)] ?_
 refine Au 6 0 [] [[o0]] [] [(0,.string s)] rfl Ae ?_
 by_cases h1:s.toList=(⟨#[]⟩:ByteArray).toList
 ·have hz:=str_nil h1
  refine Au 9 0 [1] [[o0,(ov (.bool true)),o0,o0,o0,o0,o0,o0],[o0]] [Value.bool ((s.toList==(⟨#[]⟩:ByteArray).toList))=Value.bool true] [(2,.bool false)] rfl ⟨congrArg (fun t=>Value.bool (t)) (beq_iff_eq.2 h1),Ae⟩ ?_
  refine Az [] [] (.bool false) Ae ?_
  intro w2 hw2
  refine⟨congrArg (fun b=>Ending.returned (Value.bool b)) (?_:false=Ez s),AB hw2⟩
  refine Eq.symm ?_
  unfold Ez U0 win
  rw[Bool.and_eq_false_iff];left;simp;(try omega)
 have hz:=str_pos h1
 by_cases h3:(16:Int)<(s.size:Int)
 ·refine Au 9 0 [1] [[o0,(ov (.bool false)),o0,o0,o0,oT,o0,o0,o0,o0,o0],[o0]] [Value.bool ((s.toList==(⟨#[]⟩:ByteArray).toList))=Value.bool false,BT ((s.size:Int) > 16)] [(2,.bool false)] rfl ⟨congrArg (fun t=>Value.bool (t)) (beq_eq_false_iff_ne.2 h1),bt,Ae⟩ ?_
  refine Az [] [] (.bool false) Ae ?_
  intro w4 hw4
  refine⟨congrArg (fun b=>Ending.returned (Value.bool b)) (?_:false=Ez s),AB hw4⟩
  refine Eq.symm ?_
  unfold Ez U0 win
  rw[Bool.and_eq_false_iff];left;simp;(try omega)
 by_cases h5:(((DF s 0).toNat:Int):Int)<97
 ·refine Au 9 0 [1] [[o0,(ov (.bool false)),o0,o0,o0,oF,o0,o0,o0,⟨.sidx (DF s 0),none⟩,oT,o0,o0,o0],[o0]] [Value.bool ((s.toList==(⟨#[]⟩:ByteArray).toList))=Value.bool false,BF ((s.size:Int) > 16),0≤(0:Int),s[(0:Int).toNat]? = some (DF s 0),BT ((((DF s 0).toNat:Int):Int)<97)] [(2,.bool false)] rfl ⟨congrArg (fun t=>Value.bool (t)) (beq_eq_false_iff_ne.2 h1),bf,(by omega),OD rfl (by omega),bt,Ae⟩ ?_
  refine Az [] [] (.bool false) Ae ?_
  intro w6 hw6
  refine⟨congrArg (fun b=>Ending.returned (Value.bool b)) (?_:false=Ez s),AB hw6⟩
  refine Eq.symm ?_
  unfold Ez U0 win
  rw[Bool.and_eq_false_iff];left;simp;(try omega)
 by_cases h7:(122:Int)<((DF s 0).toNat:Int)
 ·refine Au 9 0 [1] [[o0,(ov (.bool false)),o0,o0,o0,oF,o0,o0,o0,⟨.sidx (DF s 0),none⟩,oF,o0,o0,o0,⟨.sidx (DF s 0),none⟩,oT,o0],[o0]] [Value.bool ((s.toList==(⟨#[]⟩:ByteArray).toList))=Value.bool false,BF ((s.size:Int) > 16),0≤(0:Int),s[(0:Int).toNat]? = some (DF s 0),BF ((((DF s 0).toNat:Int):Int)<97),0≤(0:Int),s[(0:Int).toNat]? = some (DF s 0),BT ((((DF s 0).toNat:Int):Int) > 122)] [(2,.bool false)] rfl ⟨congrArg (fun t=>Value.bool (t)) (beq_eq_false_iff_ne.2 h1),bf,(by omega),OD rfl (by omega),bf,(by omega),OD rfl (by omega),bt,Ae⟩ ?_
  refine Az [] [] (.bool false) Ae ?_
  intro w8 hw8
  refine⟨congrArg (fun b=>Ending.returned (Value.bool b)) (?_:false=Ez s),AB hw8⟩
  refine Eq.symm ?_
  unfold Ez U0 win
  rw[Bool.and_eq_false_iff];left;simp;(try omega)
 refine Au 12 0 [0] [[o0,(ov (.bool false)),o0,o0,o0,oF,o0,o0,o0,⟨.sidx (DF s 0),none⟩,oF,o0,o0,o0,⟨.sidx (DF s 0),none⟩,oF,o0],[o0]] [Value.bool ((s.toList==(⟨#[]⟩:ByteArray).toList))=Value.bool false,BF ((s.size:Int) > 16),0≤(0:Int),s[(0:Int).toNat]? = some (DF s 0),BF ((((DF s 0).toNat:Int):Int)<97),0≤(0:Int),s[(0:Int).toNat]? = some (DF s 0),BF ((((DF s 0).toNat:Int):Int) > 122)] [(0,.string s),(3,i6 0)] rfl ⟨congrArg (fun t=>Value.bool (t)) (beq_eq_false_iff_ne.2 h1),bf,(by omega),OD rfl (by omega),bf,(by omega),OD rfl (by omega),bf,Ae⟩ ?_
 refine D8 (fun m a w'=>∃ (n10:Nat) (k:Nat),m=s.size - k∧z≤n10∧(k≤s.size)∧(∀ i,i<k→nameB (DF s i)=true)∧St 49 [(0,.string s),(3,Ac k)] [] ⟨w,n10,[(Ak w)]⟩ a w') (s.size - 0) ?_ ?_
 ·intro a w' hs;exact⟨z,0,rfl,Nat.le_refl _,Nat.zero_le _,fun i hi=>absurd hi (Nat.not_lt_zero i),hs⟩
 rintro m a w' ⟨n10,k,rfl,hn9,hkk,hf,hs⟩
 refine(?_:G Tryd.prog 49 [(0,.string s),(3,Ac k)] [] ⟨w,n10,[(Ak w)]⟩ _ _ _) a w' hs
 clear hs a w'
 refine CW <| CW ?_
 by_cases h11:(k:Int)<(s.size:Int)
 ·refine Au 13 0 [1] [[o0,o0,o0,oT],[o0,o0,⟨.sidx (DF s k),none⟩,o0]] [BT ((k:Int)<(s.size:Int)),0≤(k:Int),s[(k:Int).toNat]? = some (DF s k)] [(0,.string s),(3,Ac k),(4,.int .u8 ((DF s k).toNat:Int))] rfl ⟨bt,(by omega),OD rfl (by omega),Ae⟩ ?_
  by_cases h12:(((DF s k).toNat:Int):Int)<97
  ·by_cases h13:(((DF s k).toNat:Int):Int)<48
   ·by_cases h14:(((DF s k).toNat:Int):Int)=45
    ·refine Au 9 0 [0] [[o0,oT,o0,o0,o0,o0,oT,o0,o0,o0,o0,o0,oF,o0],[o0,(ov (i6 ((k+1:Nat):Int))),o0]] [BT ((((DF s k).toNat:Int):Int)<97),BT ((((DF s k).toNat:Int):Int)<48),NF ((DF s k).toNat:Int) 45,Wr ((k:Int)+1) (((k+1:Nat):Int))] [(0,.string s),(UC k)] rfl ⟨bt,bt,nf,BP,Ae⟩ ?_
     refine BR (fun a w' hs=>⟨s.size - (k+1),by omega,n10,(k+1),rfl,by omega,by omega,EP hf (by unfold nameB win;simp;omega),hs⟩)
    refine Au 9 0 [1] [[o0,oT,o0,o0,o0,o0,oT,o0,o0,o0,o0,o0,oT,o0],[o0]] [BT ((((DF s k).toNat:Int):Int)<97),BT ((((DF s k).toNat:Int):Int)<48),NT ((DF s k).toNat:Int) 45] [(2,.bool false)] rfl ⟨bt,bt,nt,Ae⟩ ?_
    refine Az [] [] (.bool false) Ae ?_
    intro w15 hw15
    refine⟨congrArg (fun b=>Ending.returned (Value.bool b)) (?_:false=Ez s),AB hw15⟩
    refine Eq.symm ?_
    unfold Ez
    rw[ML (k:=k) (by omega) (by unfold nameB win;simp;omega),Bool.and_false]
   by_cases h16:(57:Int)<((DF s k).toNat:Int)
   ·by_cases h17:(((DF s k).toNat:Int):Int)=45
    ·refine Au 9 0 [0] [[o0,oT,o0,o0,o0,o0,oF,o0,o0,oT,o0,o0,o0,o0,oF,o0],[o0,(ov (i6 ((k+1:Nat):Int))),o0]] [BT ((((DF s k).toNat:Int):Int)<97),BF ((((DF s k).toNat:Int):Int)<48),BT ((((DF s k).toNat:Int):Int) > 57),NF ((DF s k).toNat:Int) 45,Wr ((k:Int)+1) (((k+1:Nat):Int))] [(0,.string s),(UC k)] rfl ⟨bt,bf,bt,nf,BP,Ae⟩ ?_
     refine BR (fun a w' hs=>⟨s.size - (k+1),by omega,n10,(k+1),rfl,by omega,by omega,EP hf (by unfold nameB win;simp;omega),hs⟩)
    refine Au 9 0 [1] [[o0,oT,o0,o0,o0,o0,oF,o0,o0,oT,o0,o0,o0,o0,oT,o0],[o0]] [BT ((((DF s k).toNat:Int):Int)<97),BF ((((DF s k).toNat:Int):Int)<48),BT ((((DF s k).toNat:Int):Int) > 57),NT ((DF s k).toNat:Int) 45] [(2,.bool false)] rfl ⟨bt,bf,bt,nt,Ae⟩ ?_
    refine Az [] [] (.bool false) Ae ?_
    intro w18 hw18
    refine⟨congrArg (fun b=>Ending.returned (Value.bool b)) (?_:false=Ez s),AB hw18⟩
    refine Eq.symm ?_
    unfold Ez
    rw[ML (k:=k) (by omega) (by unfold nameB win;simp;omega),Bool.and_false]
   refine Au 9 0 [0] [[o0,oT,o0,o0,o0,o0,oF,o0,o0,oF,o0,o0,o0,o0],[o0,(ov (i6 ((k+1:Nat):Int))),o0]] [BT ((((DF s k).toNat:Int):Int)<97),BF ((((DF s k).toNat:Int):Int)<48),BF ((((DF s k).toNat:Int):Int) > 57),Wr ((k:Int)+1) (((k+1:Nat):Int))] [(0,.string s),(UC k)] rfl ⟨bt,bf,bf,BP,Ae⟩ ?_
   refine BR (fun a w' hs=>⟨s.size - (k+1),by omega,n10,(k+1),rfl,by omega,by omega,EP hf (by unfold nameB win;simp;omega),hs⟩)
  by_cases h19:(122:Int)<((DF s k).toNat:Int)
  ·by_cases h20:(((DF s k).toNat:Int):Int)<48
   ·by_cases h21:(((DF s k).toNat:Int):Int)=45
    ·refine Au 9 0 [0] [[o0,oF,o0,o0,oT,o0,o0,o0,oT,o0,o0,o0,o0,o0,oF,o0],[o0,(ov (i6 ((k+1:Nat):Int))),o0]] [BF ((((DF s k).toNat:Int):Int)<97),BT ((((DF s k).toNat:Int):Int) > 122),BT ((((DF s k).toNat:Int):Int)<48),NF ((DF s k).toNat:Int) 45,Wr ((k:Int)+1) (((k+1:Nat):Int))] [(0,.string s),(UC k)] rfl ⟨bf,bt,bt,nf,BP,Ae⟩ ?_
     refine BR (fun a w' hs=>⟨s.size - (k+1),by omega,n10,(k+1),rfl,by omega,by omega,EP hf (by unfold nameB win;simp;omega),hs⟩)
    refine Au 9 0 [1] [[o0,oF,o0,o0,oT,o0,o0,o0,oT,o0,o0,o0,o0,o0,oT,o0],[o0]] [BF ((((DF s k).toNat:Int):Int)<97),BT ((((DF s k).toNat:Int):Int) > 122),BT ((((DF s k).toNat:Int):Int)<48),NT ((DF s k).toNat:Int) 45] [(2,.bool false)] rfl ⟨bf,bt,bt,nt,Ae⟩ ?_
    refine Az [] [] (.bool false) Ae ?_
    intro w22 hw22
    refine⟨congrArg (fun b=>Ending.returned (Value.bool b)) (?_:false=Ez s),AB hw22⟩
    refine Eq.symm ?_
    unfold Ez
    rw[ML (k:=k) (by omega) (by unfold nameB win;simp;omega),Bool.and_false]
   by_cases h23:(57:Int)<((DF s k).toNat:Int)
   ·by_cases h24:(((DF s k).toNat:Int):Int)=45
    ·refine Au 9 0 [0] [[o0,oF,o0,o0,oT,o0,o0,o0,oF,o0,o0,oT,o0,o0,o0,o0,oF,o0],[o0,(ov (i6 ((k+1:Nat):Int))),o0]] [BF ((((DF s k).toNat:Int):Int)<97),BT ((((DF s k).toNat:Int):Int) > 122),BF ((((DF s k).toNat:Int):Int)<48),BT ((((DF s k).toNat:Int):Int) > 57),NF ((DF s k).toNat:Int) 45,Wr ((k:Int)+1) (((k+1:Nat):Int))] [(0,.string s),(UC k)] rfl ⟨bf,bt,bf,bt,nf,BP,Ae⟩ ?_
     refine BR (fun a w' hs=>⟨s.size - (k+1),by omega,n10,(k+1),rfl,by omega,by omega,EP hf (by unfold nameB win;simp;omega),hs⟩)
    refine Au 9 0 [1] [[o0,oF,o0,o0,oT,o0,o0,o0,oF,o0,o0,oT,o0,o0,o0,o0,oT,o0],[o0]] [BF ((((DF s k).toNat:Int):Int)<97),BT ((((DF s k).toNat:Int):Int) > 122),BF ((((DF s k).toNat:Int):Int)<48),BT ((((DF s k).toNat:Int):Int) > 57),NT ((DF s k).toNat:Int) 45] [(2,.bool false)] rfl ⟨bf,bt,bf,bt,nt,Ae⟩ ?_
    refine Az [] [] (.bool false) Ae ?_
    intro w25 hw25
    refine⟨congrArg (fun b=>Ending.returned (Value.bool b)) (?_:false=Ez s),AB hw25⟩
    refine Eq.symm ?_
    unfold Ez
    rw[ML (k:=k) (by omega) (by unfold nameB win;simp;omega),Bool.and_false]
   refine Au 9 0 [0] [[o0,oF,o0,o0,oT,o0,o0,o0,oF,o0,o0,oF,o0,o0,o0,o0],[o0,(ov (i6 ((k+1:Nat):Int))),o0]] [BF ((((DF s k).toNat:Int):Int)<97),BT ((((DF s k).toNat:Int):Int) > 122),BF ((((DF s k).toNat:Int):Int)<48),BF ((((DF s k).toNat:Int):Int) > 57),Wr ((k:Int)+1) (((k+1:Nat):Int))] [(0,.string s),(UC k)] rfl ⟨bf,bt,bf,bf,BP,Ae⟩ ?_
   refine BR (fun a w' hs=>⟨s.size - (k+1),by omega,n10,(k+1),rfl,by omega,by omega,EP hf (by unfold nameB win;simp;omega),hs⟩)
  refine Au 9 0 [0] [[o0,oF,o0,o0,oF,o0,o0,o0,o0,o0],[o0,(ov (i6 ((k+1:Nat):Int))),o0]] [BF ((((DF s k).toNat:Int):Int)<97),BF ((((DF s k).toNat:Int):Int) > 122),Wr ((k:Int)+1) (((k+1:Nat):Int))] [(0,.string s),(UC k)] rfl ⟨bf,bf,BP,Ae⟩ ?_
  refine BR (fun a w' hs=>⟨s.size - (k+1),by omega,n10,(k+1),rfl,by omega,by omega,EP hf (by unfold nameB win;simp;omega),hs⟩)
 refine Au 14 0 [0] [[o0,o0,o0,oF],[o0]] [BF ((k:Int)<(s.size:Int))] [(2,.bool true)] rfl ⟨bf,Ae⟩ ?_
 refine Az [] [] (.bool true) Ae ?_
 intro w26 hw26
 refine⟨congrArg (fun b=>Ending.returned (Value.bool b)) (?_:true=Ez s),AB hw26⟩
 refine Eq.symm ?_
 unfold Ez
 rw[UY (fun i hi=>hf i (by omega))]
 unfold U0 win;simp;omega
section
variable (z:Nat)(c:Ai)
abbrev X8:=bk z (Ai.arr c) 26
end
theorem rnamed_calls(w:World)(c:Ai)(hc:Ai.ok Any w c)(p:Nat)(hp:p<c.Aa.xs.length):Calls Tryd.prog 80 #[.agg (Ai.arr c),.int .i64 (p:Int)] w fun e w'=>e = .returned (.bool (AP c p))∧Ce (fun _=>False) w w':=by
 obtain⟨z,hz⟩:∃ z,z=w.heap.size:=⟨_,rfl⟩
 refine Bf (args:=[.agg (Ai.arr c),Ac p]) 31 ⟨w,z,[(Ak w)]⟩ Tryd.func80 rfl (by kernel_rfl) (by kernel_rfl) (Ed hz) ?_
 have hpl:=hc.Aa.1.len;have hpc:=hc.Aa.1.le
 refine Di [0,1] [(0,.agg (Ai.arr c)),(1,Ac p)] ?_
 refine q_c 10 0 [] [[o0,o0],[o0]] [] [(1,Ac p),(2,pt z),(5,i6 0)] ⟨w,z+1,[(Ak w),(X8 z c)]⟩ rfl Ae ?_
 refine D8 (fun m a w'=>∃ (n2:Nat) (k:Nat),m=p - k∧z+1≤n2∧(k≤p)∧(∀ i,i<k→(!((Es c i).Name.toList==(Es c p).Name.toList))=true)∧St 31 [(1,Ac p),(2,pt z),(5,Ac k)] [] ⟨w,n2,[(Ak w),(X8 z c)]⟩ a w') (p - 0) ?_ ?_
 ·intro a w' hs;exact⟨(z+1),0,rfl,Nat.le_refl _,Nat.zero_le _,fun i hi=>absurd hi (Nat.not_lt_zero i),hs⟩
 rintro m a w' ⟨n2,k,rfl,hn1,hkk,hf,hs⟩
 refine(?_:G Tryd.prog 31 [(1,Ac p),(2,pt z),(5,Ac k)] [] ⟨w,n2,[(Ak w),(X8 z c)]⟩ _ _ _) a w' hs
 clear hs a w'
 refine CW <| CW ?_
 by_cases h3:(k:Int)<(p:Int)
 ·refine Au 9 0 [1] [[o0,o0,oT]] [BT ((k:Int)<(p:Int))] [(1,Ac p),(2,pt z),(5,Ac k),(8,.bool true)] rfl ⟨bt,Ae⟩ ?_
  obtain⟨b4,o5,ha6,hF8,hc7⟩:=(hc.Aa).1.all (show 0<c.Aa.xs.length by omega)
  replace ha6:c.Aa.a=some ⟨b4,o5,none⟩:=ha6
  have hc9:=hc7 k (show k<c.Aa.xs.length by omega)
  have he10:=(hc.Aa).2 k (show k<c.Aa.xs.length by omega)
  obtain⟨y11,hy11⟩:∃ y_,y_=gd c.Aa.xs k:=⟨_,rfl⟩
  rw[←hy11]at he10 hc9
  have hc12:=hc7 p (show p<c.Aa.xs.length by omega)
  have he13:=(hc.Aa).2 p (show p<c.Aa.xs.length by omega)
  obtain⟨y14,hy14⟩:∃ y_,y_=gd c.Aa.xs p:=⟨_,rfl⟩
  rw[←hy14]at he13 hc12
  by_cases h15:y11.Name.toList=y14.Name.toList
  ·refine DZ 13 [0,1] [(Ak w),(X8 z c)] rfl rfl ?_
   refine Ci [(0,o0),(1,(EM 1 b4 o5 c.Aa)),(2,o0),(3,(oi k)),(4,o0),(5,(oa [.via 0 (.string y11.Name)])),(6,o0),(7,(EM 1 b4 o5 c.Aa)),(8,o0),(9,(oi p)),(10,o0),(11,(oa [.via 0 (.string y14.Name)])),(12,(ov (.bool true)))] [1,2,5,23] [Qb z,Ej b4 o5 c.Aa,Dc k,k<c.Aa.xs.length,BM,Old w b4 (o5+k*8) (.string y11.Name),Qb z,Ej b4 o5 c.Aa,Dc p,p<c.Aa.xs.length,BM,Old w b4 (o5+p*8) (.string y14.Name),Value.bool ((y11.Name.toList==y14.Name.toList))=Value.bool true] (Dw 13 0) [(1,Ac p),(2,pt z),(5,Ac k),(23,.bool true)] ⟨rfl,Eg ha6,rfl,(by omega),rfl,Aw (hc9 0 _ rfl),rfl,Eg ha6,rfl,(by omega),rfl,Aw (hc12 0 _ rfl),congrArg (fun t=>Value.bool (t)) (beq_iff_eq.2 h15),Ae⟩ ?_
   refine CE ?_
   refine NU 7 0 [1] [[o0]] [] [(4,.bool false)] rfl Ae ?_
   refine Az [] [] (.bool false) Ae ?_
   intro w16 hw16
   refine⟨congrArg (fun b=>Ending.returned (Value.bool b)) (?_:false=AP c p),AB hw16⟩
   refine Eq.symm ?_
   unfold AP
   rw[ML (k:=k) (by omega) (by dsimp only[Es];rw[←hy11,←hy14,beq_iff_eq.2 h15];rfl),Bool.false_and]
  refine DZ 13 [0,1] [(Ak w),(X8 z c)] rfl rfl ?_
  refine Ci [(0,o0),(1,(EM 1 b4 o5 c.Aa)),(2,o0),(3,(oi k)),(4,o0),(5,(oa [.via 0 (.string y11.Name)])),(6,o0),(7,(EM 1 b4 o5 c.Aa)),(8,o0),(9,(oi p)),(10,o0),(11,(oa [.via 0 (.string y14.Name)])),(12,(ov (.bool false)))] [1,2,5,23] [Qb z,Ej b4 o5 c.Aa,Dc k,k<c.Aa.xs.length,BM,Old w b4 (o5+k*8) (.string y11.Name),Qb z,Ej b4 o5 c.Aa,Dc p,p<c.Aa.xs.length,BM,Old w b4 (o5+p*8) (.string y14.Name),Value.bool ((y11.Name.toList==y14.Name.toList))=Value.bool false] (Dw 13 0) [(1,Ac p),(2,pt z),(5,Ac k),(23,.bool false)] ⟨rfl,Eg ha6,rfl,(by omega),rfl,Aw (hc9 0 _ rfl),rfl,Eg ha6,rfl,(by omega),rfl,Aw (hc12 0 _ rfl),congrArg (fun t=>Value.bool (t)) (beq_eq_false_iff_ne.2 h15),Ae⟩ ?_
  refine CE ?_
  refine NU 7 0 [0] [[o0,(ov (i6 ((k+1:Nat):Int))),o0]] [Wr ((k:Int)+1) (((k+1:Nat):Int))] [(1,Ac p),(2,pt z),(5,i6 ((k+1:Nat):Int))] rfl ⟨BP,Ae⟩ ?_
  refine BR (fun a w' hs=>⟨p - (k+1),by omega,n2,(k+1),rfl,by omega,by omega,EP hf (by dsimp only[Es];rw[←hy11,←hy14,beq_eq_false_iff_ne.2 h15];rfl),hs⟩)
 refine Au 10 0 [0] [[o0,o0,oF]] [BF ((k:Int)<(p:Int))] [(1,Ac p),(2,pt z),(5,Ac k),(8,.bool false)] rfl ⟨bf,Ae⟩ ?_
 obtain⟨b17,o18,ha19,hF21,hc20⟩:=(hc.Aa).1.all (show 0<c.Aa.xs.length by omega)
 replace ha19:c.Aa.a=some ⟨b17,o18,none⟩:=ha19
 have hc22:=hc20 p (show p<c.Aa.xs.length by omega)
 have he23:=(hc.Aa).2 p (show p<c.Aa.xs.length by omega)
 obtain⟨y24,hy24⟩:∃ y_,y_=gd c.Aa.xs p:=⟨_,rfl⟩
 rw[←hy24]at he23 hc22
 refine Au 1 6 [] [[o0,(EM 1 b17 o18 c.Aa),o0,(oi p),o0,(oa [.via 0 (.string y24.Name)])]] [Qb z,Ej b17 o18 c.Aa,Dc p,p<c.Aa.xs.length,BM,Old w b17 (o18+p*8) (.string y24.Name)] [(29,.string y24.Name)] rfl ⟨rfl,Eg ha19,rfl,(by omega),rfl,Aw (hc22 0 _ rfl),Ae⟩ ?_
 refine Ba 97 #[.string y24.Name] (some 30) (.bool (Ez y24.Name)) (fun w25 hw25=>risName_calls w25 y24.Name he23.Name) (fun n26 (hn27:n2≤n26) => ?_)
 refine AZ 3 0 [] [[o0]] [] [(4,.bool (Ez y24.Name))] rfl Ae ?_
 refine Az [] [] (.bool (Ez y24.Name)) Ae ?_
 intro w28 hw28
 refine⟨congrArg (fun b=>Ending.returned (Value.bool b)) (?_:Ez y24.Name=AP c p),AB hw28⟩
 refine Eq.symm ?_
 unfold AP
 rw[UY (fun i hi=>hf i (by omega)),Bool.true_and];dsimp only[Es];rw[←hy24]
section
variable (z:Nat)(x:Aq)
abbrev VW:=bk z (Aq.arr x) 35
end
theorem rentry_calls(w:World)(x:Aq)(hx:Aq.ok Any w x)(hr:∀ k,k<x.Ah.xs.length→(0≤(gd x.Ah.xs k).Bl∧(gd x.Ah.xs k).Bl≤255)∧(1≤(gd x.Ah.xs k).AO∧(gd x.Ah.xs k).AO≤256)):Calls Tryd.prog 82 #[.agg (Aq.arr x)] w fun e w'=>e = .returned (.bool (Nz x))∧Ce (fun _=>False) w w':=by
 obtain⟨z,hz⟩:∃ z,z=w.heap.size:=⟨_,rfl⟩
 refine Bf (args:=[.agg (Aq.arr x)]) 39 ⟨w,z,[(Ak w)]⟩ Tryd.func82 rfl (by kernel_rfl) (by kernel_rfl) (Ed hz) ?_
 have hpl:=hx.Ah.1.len;have hxe:(-9223372036854775808:Int)≤x.Entry∧x.Entry≤9223372036854775807:=hx.Entry
 refine Di [0] [(0,.agg (Aq.arr x))] ?_
 refine q_c 7 2 [] [[o0,o0],[o0,(a1 1)]] [Qb z] [(1,pt z),(6,i6 x.Entry)] ⟨w,z+1,[(Ak w),(VW z x)]⟩ rfl ⟨rfl,Ae⟩ ?_
 refine Ba 79 #[i6 x.Entry,i6 0,i6 4095] (some 7) (.bool (win x.Entry 0 4095)) (fun w1 hw1=>Gj w1 x.Entry 0 4095) (fun n2 (hn3:z+1≤n2) => ?_)
 refine Dh [1,7] [(1,pt z),(7,.bool (win x.Entry 0 4095))] ?_
 by_cases h4:(win x.Entry 0 4095)=true
 ·have hd5:=Dz h4
  refine AZ 11 0 [0] [[(ov (.bool false))],[o0]] [Value.bool (!(win x.Entry 0 4095))=Value.bool false] [(1,pt z),(3,i6 0)] rfl ⟨by simp[h4],Ae⟩ ?_
  refine D8 (fun m a w'=>∃ (n7:Nat) (k:Nat),m=x.Ah.xs.length - k∧n2≤n7∧(k≤x.Ah.xs.length)∧(∀ i,i<k→Ro x i=false)∧St 39 [(1,pt z),(3,Ac k)] [] ⟨w,n7,[(Ak w),(VW z x)]⟩ a w') (x.Ah.xs.length - 0) ?_ ?_
  ·intro a w' hs;exact⟨n2,0,rfl,Nat.le_refl _,Nat.zero_le _,fun i hi=>absurd hi (Nat.not_lt_zero i),hs⟩
  rintro m a w' ⟨n7,k,rfl,hn6,hkk,hf,hs⟩
  refine(?_:G Tryd.prog 39 [(1,pt z),(3,Ac k)] [] ⟨w,n7,[(Ak w),(VW z x)]⟩ _ _ _) a w' hs
  clear hs a w'
  have hxw:=Dz h4
  refine CW <| CW ?_
  by_cases h8:(k:Int)<(x.Ah.xs.length:Int)
  ·refine Au 9 0 [1] [[o0,o0,(a1 1),o0,oT]] [Qb z,BT ((k:Int)<(x.Ah.xs.length:Int))] [(1,pt z),(3,Ac k),(13,.bool true)] rfl ⟨rfl,bt,Ae⟩ ?_
   obtain⟨b9,o10,ha11,hF13,hc12⟩:=(hx.Ah).1.all (show 0<x.Ah.xs.length by omega)
   replace ha11:x.Ah.a=some ⟨b9,o10,none⟩:=ha11
   have hc14:=hc12 k (show k<x.Ah.xs.length by omega)
   have he15:=(hx.Ah).2 k (show k<x.Ah.xs.length by omega)
   obtain⟨y16,hy16⟩:∃ y_,y_=gd x.Ah.xs k:=⟨_,rfl⟩
   rw[←hy16]at he15 hc14
   have hb17:=hr k (by omega);rw[←hy16]at hb17
   refine q_c 5 11 [] [[o0,(EM 1 b9 o10 x.Ah),o0,(oi k),(ol 0 (CS.arr y16)),o0,(an 4 2)],[o0,(a1 1),(ov (i6 (x.Entry / 16))),o0,(a1 2),o0,(a1 2),o0,(a1 2),(ov (i6 (y16.Bl+y16.AO))),(ov (i6 ((y16.Bl+y16.AO) - 1)))]] [Qb z,Ej b9 o10 x.Ah,Dc k,k<x.Ah.xs.length,BM,GN w b9 (o10+k*4) (CS.arr y16),Qb n7,Qb n7,Qb n7,Qb n7,Qb z,Wr (Int.tdiv (x.Entry) 16) (x.Entry / 16),Qb n7,Qb n7,Qb n7,Wr ((y16.Bl:Int)+y16.AO) (y16.Bl+y16.AO),Wr ((y16.Bl+y16.AO:Int) - 1) ((y16.Bl+y16.AO) - 1)] [(1,pt z),(3,Ac k),(4,pt n7),(23,i6 (x.Entry / 16)),(25,i6 y16.Bl),(31,i6 ((y16.Bl+y16.AO) - 1))] ⟨w,n7+1,[(Ak w),(VW z x),(bk n7 (CS.arr y16) 147)]⟩ rfl ⟨rfl,Eg ha11,rfl,(by omega),rfl,Em hc14,rfl,rfl,rfl,rfl,rfl,congrArg (Value.int .i64) (Me (by omega) (by omega) (by omega)),rfl,rfl,rfl,BP,BP,Ae⟩ ?_
   refine Ba 79 #[i6 (x.Entry / 16),i6 y16.Bl,i6 ((y16.Bl+y16.AO) - 1)] (some 32) (.bool (win (x.Entry / 16) y16.Bl ((y16.Bl+y16.AO) - 1))) (fun w18 hw18=>Gj w18 (x.Entry / 16) y16.Bl ((y16.Bl+y16.AO) - 1)) (fun n19 (hn20:n7+1≤n19) => ?_)
   refine Dh [1,3,4,32] [(1,pt z),(3,Ac k),(4,pt n7),(32,.bool (win (x.Entry / 16) y16.Bl ((y16.Bl+y16.AO) - 1)))] ?_
   by_cases h21:(win (x.Entry / 16) y16.Bl ((y16.Bl+y16.AO) - 1))=true
   ·have hd22:=Dz h21
    by_cases h23:((YY y16.Io 4):Int)=0
    ·refine AZ 8 0 [0] [[(ov (.bool true)),o0,(a1 2),o0,oF,o0],[o0,(ov (i6 ((k+1:Nat):Int))),o0]] [Value.bool (win (x.Entry / 16) y16.Bl ((y16.Bl+y16.AO) - 1))=Value.bool true,Qb n7,NF (YY y16.Io 4) 0,Wr ((k:Int)+1) (((k+1:Nat):Int))] [(1,pt z),(3,i6 ((k+1:Nat):Int))] rfl ⟨(congrArg Value.bool h21),rfl,nf,BP,Ae⟩ ?_
     refine Cc [0,1] [(Ak w),(VW z x)] rfl rfl ?_
     refine BI [1,3] [(1,pt z),(3,i6 ((k+1:Nat):Int))] ?_
     refine BR (fun a w' hs=>⟨x.Ah.xs.length - (k+1),by omega,n19,(k+1),rfl,by omega,by omega,EP hf (by unfold Ro;rw[←hy16];simp[h4,h21,h23]),hs⟩)
    refine AZ 8 0 [1] [[(ov (.bool true)),o0,(a1 2),o0,oT,o0],[o0]] [Value.bool (win (x.Entry / 16) y16.Bl ((y16.Bl+y16.AO) - 1))=Value.bool true,Qb n7,NT (YY y16.Io 4) 0] [(2,.bool true)] rfl ⟨(congrArg Value.bool h21),rfl,nt,Ae⟩ ?_
    refine Az [] [] (.bool true) Ae ?_
    intro w24 hw24
    refine⟨congrArg (fun b=>Ending.returned (Value.bool b)) (?_:true=Nz x),AB hw24⟩
    refine Eq.symm ?_
    unfold Nz Gh
    rw[range_any (k:=k) (by omega) (by unfold Ro;rw[←hy16];simp[h4,h21,h23])];simp[h4,h21,h23]
   have hd25:=FI h21
   refine AZ 8 0 [0] [[(ov (.bool false)),o0],[o0,(ov (i6 ((k+1:Nat):Int))),o0]] [Value.bool (win (x.Entry / 16) y16.Bl ((y16.Bl+y16.AO) - 1))=Value.bool false,Wr ((k:Int)+1) (((k+1:Nat):Int))] [(1,pt z),(3,i6 ((k+1:Nat):Int))] rfl ⟨(congrArg Value.bool (Bool.eq_false_iff.2 h21)),BP,Ae⟩ ?_
   refine Cc [0,1] [(Ak w),(VW z x)] rfl rfl ?_
   refine BI [1,3] [(1,pt z),(3,i6 ((k+1:Nat):Int))] ?_
   refine BR (fun a w' hs=>⟨x.Ah.xs.length - (k+1),by omega,n19,(k+1),rfl,by omega,by omega,EP hf (by unfold Ro;rw[←hy16];simp[h4,h21]),hs⟩)
  refine Au 14 0 [0] [[o0,o0,(a1 1),o0,oF],[o0]] [Qb z,BF ((k:Int)<(x.Ah.xs.length:Int))] [(2,.bool false)] rfl ⟨rfl,bf,Ae⟩ ?_
  refine Az [] [] (.bool false) Ae ?_
  intro w26 hw26
  refine⟨congrArg (fun b=>Ending.returned (Value.bool b)) (?_:false=Nz x),AB hw26⟩
  refine Eq.symm ?_
  unfold Nz Gh
  first | (rw[Gv (fun i hi=>hf i (by omega)),Bool.and_false]) | simp[h4]
 have hd27:=FI h4
 refine AZ 8 0 [1] [[(ov (.bool true))],[o0]] [Value.bool (!(win x.Entry 0 4095))=Value.bool true] [(2,.bool false)] rfl ⟨by simp[h4],Ae⟩ ?_
 refine Az [] [] (.bool false) Ae ?_
 intro w28 hw28
 refine⟨congrArg (fun b=>Ending.returned (Value.bool b)) (?_:false=Nz x),AB hw28⟩
 refine Eq.symm ?_
 unfold Nz Gh
 first | (rw[Gv (fun i hi=>hf i (by omega)),Bool.and_false]) | simp[h4]
section
variable (z:Nat)(c:Ai)
abbrev X5:=bk z (Ai.arr c) 26
end
theorem rsplit_calls(w:World)(c:Ai)(hc:Ai.ok Any w c)(k0:Nat)(hk0:k0<c.Bc.xs.length)(p:Int)(hp1 : -1≤p):Calls Tryd.prog 84 #[.agg (Ai.arr c),.int .i64 (k0:Int),.int .i64 p] w fun e w'=>e = .returned (.bool (Ip c k0 p))∧Ce (fun _=>False) w w':=by
 obtain⟨z,hz⟩:∃ z,z=w.heap.size:=⟨_,rfl⟩
 refine Bf (args:=[.agg (Ai.arr c),Ac k0,i6 p]) 39 ⟨w,z,[(Ak w)]⟩ Tryd.func84 rfl (by kernel_rfl) (by kernel_rfl) (Ed hz) ?_
 have hpl:=hc.Bc.1.len;have hpc:=hc.Bc.1.le
 refine Di [0,1,2] [(0,.agg (Ai.arr c)),(1,Ac k0),(2,i6 p)] ?_
 refine q_c 10 0 [] [[o0,o0],[o0]] [] [(1,Ac k0),(2,i6 p),(3,pt z),(7,i6 0)] ⟨w,z+1,[(Ak w),(X5 z c)]⟩ rfl Ae ?_
 refine D8 (fun m a w'=>∃ (n2:Nat) (k:Nat),m=k0 - k∧z+1≤n2∧(k≤k0)∧(∀ i,i<k→(List.range (DU c i).xs.length).any (fun n => !decide (p = -1)&&decide ((gd (DU c i).xs n).Partition=p))=false)∧St 39 [(1,Ac k0),(2,i6 p),(3,pt z),(7,Ac k)] [] ⟨w,n2,[(Ak w),(X5 z c)]⟩ a w') (k0 - 0) ?_ ?_
 ·intro a w' hs;exact⟨(z+1),0,rfl,Nat.le_refl _,Nat.zero_le _,fun i hi=>absurd hi (Nat.not_lt_zero i),hs⟩
 rintro m a w' ⟨n2,k,rfl,hn1,hkk,hf,hs⟩
 refine(?_:G Tryd.prog 39 [(1,Ac k0),(2,i6 p),(3,pt z),(7,Ac k)] [] ⟨w,n2,[(Ak w),(X5 z c)]⟩ _ _ _) a w' hs
 clear hs a w'
 refine CW <| CW ?_
 by_cases h3:(k:Int)<(k0:Int)
 ·refine Au 13 0 [1] [[o0,o0,oT],[o0]] [BT ((k:Int)<(k0:Int))] [(1,Ac k0),(2,i6 p),(3,pt z),(7,Ac k),(8,i6 0)] rfl ⟨bt,Ae⟩ ?_
  refine D8 (fun m a w'=>∃ (n5:Nat) (j:Nat),m=(gd c.Bc.xs k).xs.length - j∧n2≤n5∧(j≤(gd c.Bc.xs k).xs.length)∧(∀ i,i<j→(!decide (p = -1)&&decide ((gd (DU c k).xs i).Partition=p))=false)∧St 39 [(1,Ac k0),(2,i6 p),(3,pt z),(7,Ac k),(8,Ac j)] [] ⟨w,n5,[(Ak w),(X5 z c)]⟩ a w') ((gd c.Bc.xs k).xs.length - 0) ?_ ?_
  ·intro a w' hs;exact⟨n2,0,rfl,Nat.le_refl _,Nat.zero_le _,fun i hi=>absurd hi (Nat.not_lt_zero i),hs⟩
  rintro m a w' ⟨n5,j,rfl,hn4,hkj,hg,hs⟩
  refine(?_:G Tryd.prog 39 [(1,Ac k0),(2,i6 p),(3,pt z),(7,Ac k),(8,Ac j)] [] ⟨w,n5,[(Ak w),(X5 z c)]⟩ _ _ _) a w' hs
  clear hs a w'
  refine CW <| CW ?_
  obtain⟨b6,o7,ha8,hF10,hc9⟩:=(hc.Bc).1.all (show 0<c.Bc.xs.length by omega)
  replace ha8:c.Bc.a=some ⟨b6,o7,none⟩:=ha8
  have hc11:=hc9 k (show k<c.Bc.xs.length by omega)
  have he12:=(hc.Bc).2 k (show k<c.Bc.xs.length by omega)
  obtain⟨y13,hy13⟩:∃ y_,y_=gd c.Bc.xs k:=⟨_,rfl⟩
  rw[←hy13]at he12 hc11
  have hley13:y13.xs.length=(gd c.Bc.xs k).xs.length:=(by rw[hy13]);have hyly13:=he12.1.len
  by_cases h14:(j:Int)<(y13.xs.length:Int)
  ·refine Au 9 0 [1] [[o0,o0,(EM 1 b6 o7 c.Bc),o0,(oi k),(oa [.via 0 (.slice y13.a y13.xs.length y13.cap)]),o0,oT]] [Qb z,Ej b6 o7 c.Bc,Dc k,k<c.Bc.xs.length,BM,Old w b6 (o7+k) (.slice y13.a y13.xs.length y13.cap),BT ((j:Int)<(y13.xs.length:Int))] [(1,Ac k0),(2,i6 p),(3,pt z),(7,Ac k),(8,Ac j),(21,.bool true)] rfl ⟨rfl,Eg ha8,rfl,(by omega),rfl,Aw (hc11 0 _ rfl),bt,Ae⟩ ?_
   by_cases h15:(p:Int) = -1
   ·refine Au 9 0 [0] [[o0,oF,o0,o0],[o0,(ov (i6 ((j+1:Nat):Int))),o0]] [NF p (-1),Wr ((j:Int)+1) (((j+1:Nat):Int))] [(1,Ac k0),(2,i6 p),(3,pt z),(7,Ac k),(8,i6 ((j+1:Nat):Int))] rfl ⟨nf,BP,Ae⟩ ?_
    refine BR (fun a w' hs=>⟨(gd c.Bc.xs k).xs.length - (j+1),by omega,n5,(j+1),rfl,by omega,by omega,EP hg (by simp;omega),hs⟩)
   obtain⟨b16,o17,ha18,hF20,hc19⟩:=(he12).1.all (show 0<y13.xs.length by omega)
   replace ha18:y13.a=some ⟨b16,o17,none⟩:=ha18
   have hc21:=hc19 j (show j<y13.xs.length by omega)
   have he22:=(he12).2 j (show j<y13.xs.length by omega)
   obtain⟨y23,hy23⟩:∃ y_,y_=gd y13.xs j:=⟨_,rfl⟩
   rw[←hy23]at he22 hc21
   by_cases h24:(y23.Partition:Int)=p
   ·refine Au 9 0 [1] [[o0,oT,o0,o0,(EM 1 b6 o7 c.Bc),o0,(oi k),⟨.auto [.via 0 (.slice y13.a y13.xs.length y13.cap)],some (.slice (some ⟨b16,o17,none⟩) y13.xs.length y13.cap)⟩,o0,(oi j),o0,(oa [.via 0 (i6 y23.Partition)]),o0,oT,o0],[o0]] [NT p (-1),Qb z,Ej b6 o7 c.Bc,Dc k,k<c.Bc.xs.length,BM,Old w b6 (o7+k) (.slice y13.a y13.xs.length y13.cap),Ej b16 o17 y13,Dc j,j<y13.xs.length,BM,Old w b16 (o17+j*3) (i6 y23.Partition),ET y23.Partition p] [(6,.bool true)] rfl ⟨nt,rfl,Eg ha8,rfl,(by omega),rfl,Aw (hc11 0 _ rfl),Eg ha18,rfl,(by omega),rfl,Aw (hc21 0 _ rfl),et,Ae⟩ ?_
    refine Az [] [] (.bool true) Ae ?_
    intro w25 hw25
    refine⟨congrArg (fun b=>Ending.returned (Value.bool b)) (?_:true=Ip c k0 p),AB hw25⟩
    refine Eq.symm ((split_ref hp1).trans (range_any (k:=k) (by omega) (range_any (k:=j) (by dsimp only[DU];omega) ?_)))
    have e:gd (DU c k).xs j=y23:=(by rw[hy23,hy13]);simp only[e];simp;omega
   refine Au 9 0 [0] [[o0,oT,o0,o0,(EM 1 b6 o7 c.Bc),o0,(oi k),⟨.auto [.via 0 (.slice y13.a y13.xs.length y13.cap)],some (.slice (some ⟨b16,o17,none⟩) y13.xs.length y13.cap)⟩,o0,(oi j),o0,(oa [.via 0 (i6 y23.Partition)]),o0,oF,o0],[o0,(ov (i6 ((j+1:Nat):Int))),o0]] [NT p (-1),Qb z,Ej b6 o7 c.Bc,Dc k,k<c.Bc.xs.length,BM,Old w b6 (o7+k) (.slice y13.a y13.xs.length y13.cap),Ej b16 o17 y13,Dc j,j<y13.xs.length,BM,Old w b16 (o17+j*3) (i6 y23.Partition),EF y23.Partition p,Wr ((j:Int)+1) (((j+1:Nat):Int))] [(1,Ac k0),(2,i6 p),(3,pt z),(7,Ac k),(8,i6 ((j+1:Nat):Int))] rfl ⟨nt,rfl,Eg ha8,rfl,(by omega),rfl,Aw (hc11 0 _ rfl),Eg ha18,rfl,(by omega),rfl,Aw (hc21 0 _ rfl),ef,BP,Ae⟩ ?_
   refine BR (fun a w' hs=>⟨(gd c.Bc.xs k).xs.length - (j+1),by omega,n5,(j+1),rfl,by omega,by omega,EP hg (by have e:gd (DU c k).xs j=y23:=(by rw[hy23,hy13]);simp only[e];simp;omega),hs⟩)
  refine Au 12 0 [0] [[o0,o0,(EM 1 b6 o7 c.Bc),o0,(oi k),(oa [.via 0 (.slice y13.a y13.xs.length y13.cap)]),o0,oF],[o0,(ov (i6 ((k+1:Nat):Int))),o0]] [Qb z,Ej b6 o7 c.Bc,Dc k,k<c.Bc.xs.length,BM,Old w b6 (o7+k) (.slice y13.a y13.xs.length y13.cap),BF ((j:Int)<(y13.xs.length:Int)),Wr ((k:Int)+1) (((k+1:Nat):Int))] [(1,Ac k0),(2,i6 p),(3,pt z),(7,i6 ((k+1:Nat):Int))] rfl ⟨rfl,Eg ha8,rfl,(by omega),rfl,Aw (hc11 0 _ rfl),bf,BP,Ae⟩ ?_
  refine BR (fun a w' hs=>⟨k0 - (k+1),by omega,n5,(k+1),rfl,by omega,by omega,EP hf (Gv (fun i hi=>hg i (by dsimp only[DU]at hi;omega))),hs⟩)
 refine Au 14 0 [0] [[o0,o0,oF],[o0]] [BF ((k:Int)<(k0:Int))] [(6,.bool false)] rfl ⟨bf,Ae⟩ ?_
 refine Az [] [] (.bool false) Ae ?_
 intro w26 hw26
 refine⟨congrArg (fun b=>Ending.returned (Value.bool b)) (?_:false=Ip c k0 p),AB hw26⟩
 exact((split_ref hp1).trans (Gv (fun i hi=>hf i (by omega)))).symm
section
variable (z:Nat)(c:Ai)(h:Int)(i j:Nat)
abbrev JE:=bk z (Ai.arr c) 26
abbrev Ky:=(6,i6 (((JS (Fz h) c.Aa.xs i+N8 (Fz h) (gd c.Aa.xs i).Ap.xs j)+1:Nat):Int))
abbrev Je:=(7,i6 (((JS (F5 h) c.Aa.xs i+N8 (F5 h) (gd c.Aa.xs i).Ap.xs j)+1:Nat):Int))
abbrev Hq:=(6,i6 (((JS (Fz h) c.Aa.xs i+N8 (Fz h) (gd c.Aa.xs i).Ap.xs j):Nat):Int))
abbrev MR:=(7,i6 (((JS (F5 h) c.Aa.xs i+N8 (F5 h) (gd c.Aa.xs i).Ap.xs j):Nat):Int))
abbrev Qh:=(9,i6 ((j+1:Nat):Int))
end
theorem NW(w:World)(c:Ai)(hc:Ai.ok Any w c)(h:Int)(hm:c.Aa.xs.length≤1024)(hq:∀ p,p<c.Aa.xs.length→(gd c.Aa.xs p).Ap.xs.length≤1024):Calls Tryd.prog 83 #[.agg (Ai.arr c),.int .i64 h] w fun e w'=>e = .returned (.tuple #[.int .i64 (IP c h:Nat),.int .i64 (Bz c h:Nat)])∧Ce (fun _=>False) w w':=by
 obtain⟨z,hz⟩:∃ z,z=w.heap.size:=⟨_,rfl⟩
 refine Bf (args:=[.agg (Ai.arr c),i6 h]) 61 ⟨w,z,[(Ak w)]⟩ Tryd.func83 rfl (by kernel_rfl) (by kernel_rfl) (Ed hz) ?_
 have hpl:=hc.Aa.1.len
 refine Di [0,1] [(0,.agg (Ai.arr c)),(1,i6 h)] ?_
 refine q_c 18 0 [] [[o0,o0,o0],[o0],[o0],[o0]] [] [(1,i6 h),(2,pt z),(6,i6 0),(7,i6 0),(8,i6 0)] ⟨w,z+1,[(Ak w),(JE z c)]⟩ rfl Ae ?_
 refine D8 (fun m a w'=>∃ (n2:Nat) (i:Nat),m=c.Aa.xs.length - i∧z+1≤n2∧(i≤c.Aa.xs.length)∧St 61 [(1,i6 h),(2,pt z),(6,i6 ((JS (Fz h) c.Aa.xs i:Nat):Int)),(7,i6 ((JS (F5 h) c.Aa.xs i:Nat):Int)),(8,Ac i)] [] ⟨w,n2,[(Ak w),(JE z c)]⟩ a w') (c.Aa.xs.length - 0) ?_ ?_
 ·intro a w' hs;exact⟨(z+1),0,rfl,Nat.le_refl _,Nat.zero_le _,hs⟩
 rintro m a w' ⟨n2,i,rfl,hn1,hki,hs⟩
 refine(?_:G Tryd.prog 61 [(1,i6 h),(2,pt z),(6,i6 ((JS (Fz h) c.Aa.xs i:Nat):Int)),(7,i6 ((JS (F5 h) c.Aa.xs i:Nat):Int)),(8,Ac i)] [] ⟨w,n2,[(Ak w),(JE z c)]⟩ _ _ _) a w' hs
 clear hs a w'
 have bb4:=WQ (f:=Fz h) (n:=i) (m:=1024) (fun p hp=>hq p (by omega))
 have bb5:=WQ (f:=F5 h) (n:=i) (m:=1024) (fun p hp=>hq p (by omega))
 refine CW <| CW ?_
 by_cases h3:(i:Int)<(c.Aa.xs.length:Int)
 ·refine Au 13 0 [1] [[o0,o0,(a1 1),o0,oT],[o0]] [Qb z,BT ((i:Int)<(c.Aa.xs.length:Int))] [(1,i6 h),(2,pt z),(6,i6 ((JS (Fz h) c.Aa.xs i:Nat):Int)),(7,i6 ((JS (F5 h) c.Aa.xs i:Nat):Int)),(8,Ac i),(9,i6 0)] rfl ⟨rfl,bt,Ae⟩ ?_
  refine D8 (fun m a w'=>∃ (n5:Nat) (j:Nat),m=(gd c.Aa.xs i).Ap.xs.length - j∧n2≤n5∧(j≤(gd c.Aa.xs i).Ap.xs.length)∧St 61 [(1,i6 h),(2,pt z),(Hq c h i j),(MR c h i j),(8,Ac i),(9,Ac j)] [] ⟨w,n5,[(Ak w),(JE z c)]⟩ a w') ((gd c.Aa.xs i).Ap.xs.length - 0) ?_ ?_
  ·intro a w' hs;exact⟨n2,0,rfl,Nat.le_refl _,Nat.zero_le _,hs⟩
  rintro m a w' ⟨n5,j,rfl,hn4,hkj,hs⟩
  refine(?_:G Tryd.prog 61 [(1,i6 h),(2,pt z),(Hq c h i j),(MR c h i j),(8,Ac i),(9,Ac j)] [] ⟨w,n5,[(Ak w),(JE z c)]⟩ _ _ _) a w' hs
  clear hs a w'
  have c4:=ZX (Fz h) (gd c.Aa.xs i).Ap.xs j
  have c5:=ZX (F5 h) (gd c.Aa.xs i).Ap.xs j
  have hyl:=hq i (by omega)
  refine CW <| CW ?_
  obtain⟨b6,o7,ha8,hF10,hc9⟩:=(hc.Aa).1.all (show 0<c.Aa.xs.length by omega)
  replace ha8:c.Aa.a=some ⟨b6,o7,none⟩:=ha8
  have hc11:=hc9 i (show i<c.Aa.xs.length by omega)
  have he12:=(hc.Aa).2 i (show i<c.Aa.xs.length by omega)
  obtain⟨y13,hy13⟩:∃ y_,y_=gd c.Aa.xs i:=⟨_,rfl⟩
  rw[←hy13]at he12 hc11
  have hley13:y13.Ap.xs.length=(gd c.Aa.xs i).Ap.xs.length:=(by rw[hy13]);have hyly13:=he12.Ap.1.len
  by_cases h14:(j:Int)<(y13.Ap.xs.length:Int)
  ·refine Au 9 0 [1] [[o0,o0,(EM 1 b6 o7 c.Aa),o0,(oi i),o0,(oa [.via 0 (.slice y13.Ap.a y13.Ap.xs.length y13.Ap.cap)]),o0,oT]] [Qb z,Ej b6 o7 c.Aa,Dc i,i<c.Aa.xs.length,BM,Old w b6 (o7+i*8+7) (.slice y13.Ap.a y13.Ap.xs.length y13.Ap.cap),BT ((j:Int)<(y13.Ap.xs.length:Int))] [(1,i6 h),(2,pt z),(Hq c h i j),(MR c h i j),(8,Ac i),(9,Ac j),(26,.bool true)] rfl ⟨rfl,Eg ha8,rfl,(by omega),rfl,Aw (hc11 7 _ rfl),bt,Ae⟩ ?_
   obtain⟨b15,o16,ha17,hF19,hc18⟩:=(he12.Ap).1.all (show 0<y13.Ap.xs.length by omega)
   replace ha17:y13.Ap.a=some ⟨b15,o16,none⟩:=ha17
   have hc20:=hc18 j (show j<y13.Ap.xs.length by omega)
   have he21:=(he12.Ap).2 j (show j<y13.Ap.xs.length by omega)
   obtain⟨y22,hy22⟩:∃ y_,y_=gd y13.Ap.xs j:=⟨_,rfl⟩
   rw[←hy22]at he21 hc20
   refine q_c 5 0 [] [[o0,(EM 1 b6 o7 c.Aa),o0,(oi i),o0,⟨.auto [.via 0 (.slice y13.Ap.a y13.Ap.xs.length y13.Ap.cap)],some (.slice (some ⟨b15,o16,none⟩) y13.Ap.xs.length y13.Ap.cap)⟩,o0,(oi j),(ol 0 (EE.arr y22)),o0,(an 2 2)]] [Qb z,Ej b6 o7 c.Aa,Dc i,i<c.Aa.xs.length,BM,Old w b6 (o7+i*8+7) (.slice y13.Ap.a y13.Ap.xs.length y13.Ap.cap),Ej b15 o16 y13.Ap,Dc j,j<y13.Ap.xs.length,BM,GN w b15 (o16+j*2) (EE.arr y22),Qb n5,Qb n5] [(1,i6 h),(2,pt z),(Hq c h i j),(MR c h i j),(8,Ac i),(9,Ac j),(10,pt n5)] ⟨w,n5+1,[(Ak w),(JE z c),(bk n5 (EE.arr y22) 127)]⟩ rfl ⟨rfl,Eg ha8,rfl,(by omega),rfl,Aw (hc11 7 _ rfl),Eg ha17,rfl,(by omega),rfl,Em hc20,rfl,rfl,Ae⟩ ?_
   by_cases h23:(y22.Channel:Int)=h
   ·refine Au 3 0 [] [[o0,(a1 2),o0,oT,o0,o0,(a1 2),o0]] [Qb n5,ET y22.Channel h,Qb n5] [(1,i6 h),(2,pt z),(Hq c h i j),(MR c h i j),(8,Ac i),(9,Ac j),(10,pt n5),(45,.bool y22.Source)] rfl ⟨rfl,et,rfl,Ae⟩ ?_
    by_cases h24:y22.Source=true
    ·refine Au 14 0 [3,0] [[o0,(ov (i6 (((JS (Fz h) c.Aa.xs i+N8 (Fz h) (gd c.Aa.xs i).Ap.xs j)+1:Nat):Int))),o0],[o0,(a1 2),o0,oT,o0,o0,(a1 2),(ov (.bool false)),o0],[o0,(ov (i6 ((j+1:Nat):Int))),o0]] [Value.bool y22.Source=Value.bool true,Wr (((((JS (Fz h) c.Aa.xs i+N8 (Fz h) (gd c.Aa.xs i).Ap.xs j):Nat):Int):Int)+1) ((((JS (Fz h) c.Aa.xs i+N8 (Fz h) (gd c.Aa.xs i).Ap.xs j)+1:Nat):Int)),Qb n5,ET y22.Channel h,Qb n5,Value.bool (!y22.Source)=Value.bool false,Wr ((j:Int)+1) (((j+1:Nat):Int))] [(1,i6 h),(2,pt z),(Ky c h i j),(MR c h i j),(8,Ac i),(Qh j)] rfl ⟨(congrArg Value.bool h24),BP,rfl,et,rfl,by simp[h24],BP,Ae⟩ ?_
     refine Cc [0,1] [(Ak w),(JE z c)] rfl rfl ?_
     have e0:gd (gd c.Aa.xs i).Ap.xs j=y22:=(by rw[hy22,hy13])
     have e4:=LY (Fz h) (gd c.Aa.xs i).Ap.xs (n:=j) (by omega);rw[e0]at e4
     have e5:=LY (F5 h) (gd c.Aa.xs i).Ap.xs (n:=j) (by omega);rw[e0]at e5
     simp[Fz,h23,h24]at e4
     simp[F5,h23,h24]at e5
     refine BI [1,2,6,7,8,9] [(1,i6 h),(2,pt z),(Ky c h i j),(MR c h i j),(8,Ac i),(Qh j)] ?_
     refine BR (fun a w' hs=>⟨(gd c.Aa.xs i).Ap.xs.length - (j+1),by omega,(n5+1),(j+1),rfl,by omega,by omega,(by(try dsimp only[JE,Ky,Hq,MR,Qh]at hs ⊢);rw[e4,e5];exact hs)⟩)
    refine Au 14 0 [2,1] [[o0,(a1 2),o0,oT,o0,o0,(a1 2),(ov (.bool true)),o0],[o0,(ov (i6 (((JS (F5 h) c.Aa.xs i+N8 (F5 h) (gd c.Aa.xs i).Ap.xs j)+1:Nat):Int))),o0],[o0,(ov (i6 ((j+1:Nat):Int))),o0]] [Value.bool y22.Source=Value.bool false,Qb n5,ET y22.Channel h,Qb n5,Value.bool (!y22.Source)=Value.bool true,Wr (((((JS (F5 h) c.Aa.xs i+N8 (F5 h) (gd c.Aa.xs i).Ap.xs j):Nat):Int):Int)+1) ((((JS (F5 h) c.Aa.xs i+N8 (F5 h) (gd c.Aa.xs i).Ap.xs j)+1:Nat):Int)),Wr ((j:Int)+1) (((j+1:Nat):Int))] [(1,i6 h),(2,pt z),(Hq c h i j),(Je c h i j),(8,Ac i),(Qh j)] rfl ⟨(congrArg Value.bool (Bool.eq_false_iff.2 h24)),rfl,et,rfl,by simp[h24],BP,BP,Ae⟩ ?_
    refine Cc [0,1] [(Ak w),(JE z c)] rfl rfl ?_
    have e0:gd (gd c.Aa.xs i).Ap.xs j=y22:=(by rw[hy22,hy13])
    have e4:=LY (Fz h) (gd c.Aa.xs i).Ap.xs (n:=j) (by omega);rw[e0]at e4
    have e5:=LY (F5 h) (gd c.Aa.xs i).Ap.xs (n:=j) (by omega);rw[e0]at e5
    simp[Fz,h23,h24]at e4
    simp[F5,h23,h24]at e5
    refine BI [1,2,6,7,8,9] [(1,i6 h),(2,pt z),(Hq c h i j),(Je c h i j),(8,Ac i),(Qh j)] ?_
    refine BR (fun a w' hs=>⟨(gd c.Aa.xs i).Ap.xs.length - (j+1),by omega,(n5+1),(j+1),rfl,by omega,by omega,(by(try dsimp only[JE,Ky,Je,Hq,MR,Qh]at hs ⊢);rw[e4,e5];exact hs)⟩)
   refine Au 16 0 [0,0] [[o0,(a1 2),o0,oF,o0,o0],[o0,(a1 2),o0,oF,o0,o0],[o0,(ov (i6 ((j+1:Nat):Int))),o0]] [Qb n5,EF y22.Channel h,Qb n5,EF y22.Channel h,Wr ((j:Int)+1) (((j+1:Nat):Int))] [(1,i6 h),(2,pt z),(Hq c h i j),(MR c h i j),(8,Ac i),(Qh j)] rfl ⟨rfl,ef,rfl,ef,BP,Ae⟩ ?_
   refine Cc [0,1] [(Ak w),(JE z c)] rfl rfl ?_
   have e0:gd (gd c.Aa.xs i).Ap.xs j=y22:=(by rw[hy22,hy13])
   have e4:=LY (Fz h) (gd c.Aa.xs i).Ap.xs (n:=j) (by omega);rw[e0]at e4
   have e5:=LY (F5 h) (gd c.Aa.xs i).Ap.xs (n:=j) (by omega);rw[e0]at e5
   simp[Fz,h23]at e4
   simp[F5,h23]at e5
   refine BI [1,2,6,7,8,9] [(1,i6 h),(2,pt z),(Hq c h i j),(MR c h i j),(8,Ac i),(Qh j)] ?_
   refine BR (fun a w' hs=>⟨(gd c.Aa.xs i).Ap.xs.length - (j+1),by omega,(n5+1),(j+1),rfl,by omega,by omega,(by(try dsimp only[JE,Ky,Je,Hq,MR,Qh]at hs ⊢);rw[e4,e5];exact hs)⟩)
  refine Au 12 0 [0] [[o0,o0,(EM 1 b6 o7 c.Aa),o0,(oi i),o0,(oa [.via 0 (.slice y13.Ap.a y13.Ap.xs.length y13.Ap.cap)]),o0,oF],[o0,(ov (i6 ((i+1:Nat):Int))),o0]] [Qb z,Ej b6 o7 c.Aa,Dc i,i<c.Aa.xs.length,BM,Old w b6 (o7+i*8+7) (.slice y13.Ap.a y13.Ap.xs.length y13.Ap.cap),BF ((j:Int)<(y13.Ap.xs.length:Int)),Wr ((i:Int)+1) (((i+1:Nat):Int))] [(1,i6 h),(2,pt z),(Hq c h i j),(MR c h i j),(8,i6 ((i+1:Nat):Int))] rfl ⟨rfl,Eg ha8,rfl,(by omega),rfl,Aw (hc11 7 _ rfl),bf,BP,Ae⟩ ?_
  have e4:=UT (Fz h) c.Aa.xs i
  have e5:=UT (F5 h) c.Aa.xs i
  refine BI [1,2,6,7,8] [(1,i6 h),(2,pt z),(Hq c h i j),(MR c h i j),(8,i6 ((i+1:Nat):Int))] ?_
  refine BR (fun a w' hs=>⟨c.Aa.xs.length - (i+1),by omega,n5,(i+1),rfl,by omega,by omega,(by(try dsimp only[JE,Hq,MR,Qh]at hs ⊢);rw[Yg (Fz h) _ (n:=j) (by omega),Yg (F5 h) _ (n:=j) (by omega),←e4,←e5]at hs;exact hs)⟩)
 refine Au 14 0 [0] [[o0,o0,(a1 1),o0,oF],[o0,o0,o0,o0]] [Qb z,BF ((i:Int)<(c.Aa.xs.length:Int))] [(4,i6 ((JS (Fz h) c.Aa.xs i:Nat):Int)),(5,i6 ((JS (F5 h) c.Aa.xs i:Nat):Int))] rfl ⟨rfl,bf,Ae⟩ ?_
 refine Az [] [] (.tuple #[i6 ((JS (Fz h) c.Aa.xs i:Nat):Int),i6 ((JS (F5 h) c.Aa.xs i:Nat):Int)]) Ae ?_
 intro w25 hw25
 exact⟨by rw[show i=c.Aa.xs.length from by omega];rfl,AB hw25⟩
theorem rright_calls(w:World)(c:Ai)(hc:Ai.ok Any w c)(hF:1≤c.Frames∧c.Frames≤1024)(g:CS)(hg:CS.ok Any w g):Calls Tryd.prog 98 #[.agg (Ai.arr c),.agg (CS.arr g)] w fun e w'=>e = .returned (.bool (J3 c g))∧Ce (fun _=>False) w w':=by
 obtain⟨z,hz⟩:∃ z,z=w.heap.size:=⟨_,rfl⟩
 refine Bf (args:=[.agg (Ai.arr c),.agg (CS.arr g)]) 36 ⟨w,z,[(Ak w)]⟩ Tryd.func98 rfl (by kernel_rfl) (by kernel_rfl) (Ed hz) ?_
 have hgf0:(-9223372036854775808:Int)≤g.Frame∧g.Frame≤9223372036854775807:=hg.Frame
 refine Di [0,1] [(0,.agg (Ai.arr c)),(1,.agg (CS.arr g))] ?_
 refine q_c 7 2 [] [[o0,o0,o0],[o0,(a1 2)]] [Qb (z+1)] [(2,pt z),(3,pt (z+1)),(6,i6 g.Bl)] ⟨w,z+2,[(Ak w),(bk z (Ai.arr c) 26),(bk (z+1) (CS.arr g) 147)]⟩ rfl ⟨rfl,Ae⟩ ?_
 refine Ba 79 #[i6 g.Bl,i6 0,i6 255] (some 7) (.bool (win g.Bl 0 255)) (fun w1 hw1=>Gj w1 g.Bl 0 255) (fun n2 (hn3:z+2≤n2) => ?_)
 refine Dh [2,3,7] [(2,pt z),(3,pt (z+1)),(7,.bool (win g.Bl 0 255))] ?_
 by_cases h4:(win g.Bl 0 255)=true
 ·have hd5:=Dz h4
  refine AZ 0 7 [] [[(ov (.bool false)),o0,o0,(a1 2),o0,(a1 2),(ov (i6 (256 - g.Bl)))]] [Value.bool (!(win g.Bl 0 255))=Value.bool false,Qb (z+1),Qb (z+1),Wr ((256:Int) - g.Bl) (256 - g.Bl)] [(2,pt z),(3,pt (z+1)),(9,.bool false),(11,i6 g.AO),(14,i6 (256 - g.Bl))] rfl ⟨by simp[h4],rfl,rfl,BP,Ae⟩ ?_
  refine Ba 79 #[i6 g.AO,i6 1,i6 (256 - g.Bl)] (some 15) (.bool (win g.AO 1 (256 - g.Bl))) (fun w6 hw6=>Gj w6 g.AO 1 (256 - g.Bl)) (fun n7 (hn8:n2≤n7) => ?_)
  refine Dh [2,3,9,15] [(2,pt z),(3,pt (z+1)),(9,.bool false),(15,.bool (win g.AO 1 (256 - g.Bl)))] ?_
  by_cases h9:(win g.AO 1 (256 - g.Bl))=true
  ·have hd10:=Dz h9
   refine AZ 6 0 [0] [[(ov (.bool false)),o0]] [Value.bool (!(win g.AO 1 (256 - g.Bl)))=Value.bool false] [(2,pt z),(3,pt (z+1)),(17,.bool false)] rfl ⟨by simp[h9],Ae⟩ ?_
   by_cases h11:(g.Frame:Int)<0
   ·refine Au 4 0 [] [[o0,(a1 2),oF,o0,o0,o0,o0,o0]] [Qb (z+1),BF ((g.Frame:Int)≥0)] [(4,.bool false)] rfl ⟨rfl,bf,Ae⟩ ?_
    refine Az [] [] (.bool false) Ae ?_
    intro w12 hw12
    refine⟨congrArg (fun b=>Ending.returned (Value.bool b)) (?_:false=J3 c g),AB hw12⟩
    have hgf:(-9223372036854775808:Int)≤g.Frame∧g.Frame≤9223372036854775807:=hg.Frame
    unfold J3
    first | done | simp[h4,h9];try omega
   by_cases h13:(c.Frames - g.Frame:Int)<g.AO
   ·refine Au 4 0 [] [[o0,(a1 2),oT,o0,o0,(a1 2),o0,(a1 1),o0,(a1 2),(ov (i6 (c.Frames - g.Frame))),oF,o0,o0,o0,o0]] [Qb (z+1),BT ((g.Frame:Int)≥0),Qb (z+1),Qb z,Qb (z+1),Wr ((c.Frames:Int) - g.Frame) (c.Frames - g.Frame),BF ((g.AO:Int)≤(c.Frames - g.Frame))] [(4,.bool false)] rfl ⟨rfl,bt,rfl,rfl,rfl,BP,bf,Ae⟩ ?_
    refine Az [] [] (.bool false) Ae ?_
    intro w14 hw14
    refine⟨congrArg (fun b=>Ending.returned (Value.bool b)) (?_:false=J3 c g),AB hw14⟩
    have hgf:(-9223372036854775808:Int)≤g.Frame∧g.Frame≤9223372036854775807:=hg.Frame
    unfold J3
    first | done | simp[h4,h9];try omega
   refine Au 1 16 [] [[o0,(a1 2),oT,o0,o0,(a1 2),o0,(a1 1),o0,(a1 2),(ov (i6 (c.Frames - g.Frame))),oT,o0,o0,o0,(a1 2)]] [Qb (z+1),BT ((g.Frame:Int)≥0),Qb (z+1),Qb z,Qb (z+1),Wr ((c.Frames:Int) - g.Frame) (c.Frames - g.Frame),BT ((g.AO:Int)≤(c.Frames - g.Frame)),Qb (z+1)] [(31,.bool true),(33,i6 g.Io)] rfl ⟨rfl,bt,rfl,rfl,rfl,BP,bt,rfl,Ae⟩ ?_
   refine Ba 79 #[i6 g.Io,i6 1,i6 7] (some 34) (.bool (win g.Io 1 7)) (fun w15 hw15=>Gj w15 g.Io 1 7) (fun n16 (hn17:n7≤n16) => ?_)
   refine AZ 3 0 [] [[o0,o0]] [] [(4,.bool (win g.Io 1 7))] rfl Ae ?_
   refine Az [] [] (.bool (win g.Io 1 7)) Ae ?_
   intro w18 hw18
   refine⟨congrArg (fun b=>Ending.returned (Value.bool b)) (?_:win g.Io 1 7=J3 c g),AB hw18⟩
   have hgf:(-9223372036854775808:Int)≤g.Frame∧g.Frame≤9223372036854775807:=hg.Frame
   unfold J3
   first | done | simp[h4,h9];try omega
  have hd19:=FI h9
  refine AZ 8 0 [1] [[(ov (.bool true)),o0],[o0]] [Value.bool (!(win g.AO 1 (256 - g.Bl)))=Value.bool true] [(4,.bool false)] rfl ⟨by simp[h9],Ae⟩ ?_
  refine Az [] [] (.bool false) Ae ?_
  intro w20 hw20
  refine⟨congrArg (fun b=>Ending.returned (Value.bool b)) (?_:false=J3 c g),AB hw20⟩
  have hgf:(-9223372036854775808:Int)≤g.Frame∧g.Frame≤9223372036854775807:=hg.Frame
  unfold J3
  first | done | simp[h4,h9];try omega
 have hd21:=FI h4
 refine AZ 8 0 [1] [[(ov (.bool true)),o0,o0],[o0]] [Value.bool (!(win g.Bl 0 255))=Value.bool true] [(4,.bool false)] rfl ⟨by simp[h4],Ae⟩ ?_
 refine Az [] [] (.bool false) Ae ?_
 intro w22 hw22
 refine⟨congrArg (fun b=>Ending.returned (Value.bool b)) (?_:false=J3 c g),AB hw22⟩
 have hgf:(-9223372036854775808:Int)≤g.Frame∧g.Frame≤9223372036854775807:=hg.Frame
 unfold J3
 first | done | simp[h4];try omega
theorem okf_reg(c:Ai)(p k:Nat):EK c p k=AQ∨(¬ (EK c p k).e=0∧(EK c p k).Ag=⟨p,k⟩):=by
 unfold EK
 split
 ·exact .inr ⟨(by decide:¬ (409:Int)=0),rfl⟩
 split
 ·exact .inr ⟨(by decide:¬ (410:Int)=0),rfl⟩
 split
 ·exact .inr ⟨(by decide:¬ (411:Int)=0),rfl⟩
 exact .inl rfl
theorem Zl{c:Ai}{p k:Nat}:(EK c p k).e=0↔EK c p k=AQ:=by
 constructor
 ·intro h
  rcases okf_reg c p k with e | e
  ·exact e
  exact absurd h e.1
 intro h;rw[h];rfl
theorem UA{x:Am}(h:TF x):x.e=0↔x=AQ:=by
 constructor
 ·intro e
  rcases h with h | h
  ·exact h
  omega
 intro e;rw[e];rfl
section
variable {c:Ai}{p k:Nat}
theorem TW(h:AY (Gw c p)≠AQ):CP c p=AY (Gw c p):=by
 have hB:Jd c p=AY (Gw c p):=by
  have:=Lr (f:=EK c p) (k:=0) (by rw[MH];exact h) (Nat.zero_le (Es c p).Ah.xs.length)
  rw[MH]at this;exact this
 unfold CP
 rw[hB,if_neg h]
theorem XD{o:Am}{f:Nat→Am}(ho:o=AQ){k:Nat}(hf:∀ a,a<k→f a=AQ):Fv o f k=AQ:=by
 subst ho;exact TP hf
theorem then_at{o:Am}{f:Nat→Am}(ho:o=AQ){k n:Nat}(hf:∀ a,a<k→f a=AQ)(hk:k<n)(hne:f k≠AQ):Fv o f n=f k:=by
 have h1:=PS (XD ho hf)
 have h2:=Lr (k:=k+1) (by rw[h1];exact hne) (show k+1≤n by omega)
 rw[h1]at h2;exact h2
theorem partQ_r(hA:AY (Gw c p)=AQ)(hf:∀ a,a<k→EK c p a=AQ)(hk:k<(Es c p).Ah.xs.length)(hne:EK c p k≠AQ):CP c p=EK c p k:=by
 have hB:Jd c p=EK c p k:=then_at hA hf hk hne
 unfold CP
 rw[hB,if_neg hne]
theorem partQ_e(hB:Jd c p=AQ)(hE:AY (H8 c p)≠AQ):CP c p=AY (H8 c p):=by
 unfold CP
 rw[if_pos hB]
 have:=Lr (f:=JH c p) (k:=0) (by rw[MH];exact hE) (Nat.zero_le (Es c p).Ap.xs.length)
 rw[MH]at this;exact this
theorem partQ_q(hB:Jd c p=AQ)(hE:AY (H8 c p)=AQ)(hf:∀ a,a<k→JH c p a=AQ)(hk:k<(Es c p).Ap.xs.length)(hne:JH c p k≠AQ):CP c p=JH c p k:=by
 unfold CP
 rw[if_pos hB]
 exact then_at hE hf hk hne
theorem partQ_f(hB:Jd c p=AQ)(hE:AY (H8 c p)=AQ)(hf:∀ a,a<(Es c p).Ap.xs.length→JH c p a=AQ):CP c p=AQ:=by
 unfold CP
 rw[if_pos hB]
 exact XD hE hf
theorem unl_no{b:Bool}{e:Int}{w:L8}(he:e≠0)(h:b=false):Af b e w≠AQ:=by
 subst h;intro x;exact he (congrArg Am.e x)
end
section
variable (z:Nat)(y16:CS)(c:Ai)
abbrev Oj:=bk (z+1) (CS.arr y16) 147
abbrev NP:=bk z (Ai.arr c) 26
abbrev Ib:=(7,pt (z+1))
end
theorem rregion_calls(w:World)(c:Ai)(hc:Ai.ok Any w c)(p k:Nat)(hp:p<c.Aa.xs.length)(hk:k<(gd c.Aa.xs p).Ah.xs.length)(hFr:1≤c.Frames∧c.Frames≤1024)(hb:∀ q n,q≤p→n<(gd c.Aa.xs q).Ah.xs.length→(q<p∨n<k)→Bd (DV c q n)):Calls Tryd.prog 81 #[.agg (Ai.arr c),.int .i64 (p:Int),.int .i64 (k:Int)] w fun e w'=>e = .returned (.int .i64 (EK c p k).e)∧Ce (fun _=>False) w w':=by
 obtain⟨z,hz⟩:∃ z,z=w.heap.size:=⟨_,rfl⟩
 refine Bf (args:=[.agg (Ai.arr c),Ac p,Ac k]) 91 ⟨w,z,[(Ak w)]⟩ Tryd.func81 rfl (by kernel_rfl) (by kernel_rfl) (Ed hz) ?_
 have hpl:=hc.Aa.1.len;have hpc:=hc.Aa.1.le;have hrl:=(hc.Aa.2 p hp).Ah.1.len;have hrc:=(hc.Aa.2 p hp).Ah.1.le
 refine Di [0,1,2] [(0,.agg (Ai.arr c)),(1,Ac p),(2,Ac k)] ?_
 refine q_c 5 0 [] [[o0,o0]] [] [(1,Ac p),(2,Ac k),(3,pt z)] ⟨w,z+1,[(Ak w),(NP z c)]⟩ rfl Ae ?_
 obtain⟨b1,o2,ha3,hF5,hc4⟩:=(hc.Aa).1.all (show 0<c.Aa.xs.length by omega)
 replace ha3:c.Aa.a=some ⟨b1,o2,none⟩:=ha3
 have hc6:=hc4 p (show p<c.Aa.xs.length by omega)
 have he7:=(hc.Aa).2 p (show p<c.Aa.xs.length by omega)
 obtain⟨y8,hy8⟩:∃ y_,y_=gd c.Aa.xs p:=⟨_,rfl⟩
 rw[←hy8]at he7 hc6
 have hley8:y8.Ah.xs.length=(gd c.Aa.xs p).Ah.xs.length:=(by rw[hy8]);have hyly8:=he7.Ah.1.len
 obtain⟨b9,o10,ha11,hF13,hc12⟩:=(he7.Ah).1.all (show 0<y8.Ah.xs.length by omega)
 replace ha11:y8.Ah.a=some ⟨b9,o10,none⟩:=ha11
 have hc14:=hc12 k (show k<y8.Ah.xs.length by omega)
 have he15:=(he7.Ah).2 k (show k<y8.Ah.xs.length by omega)
 obtain⟨y16,hy16⟩:∃ y_,y_=gd y8.Ah.xs k:=⟨_,rfl⟩
 rw[←hy16]at he15 hc14
 have e0y16:DV c p k=y16:=(by dsimp only[DV];rw[hy16,hy8]);have hgfy16:(-9223372036854775808:Int)≤y16.Frame∧y16.Frame≤9223372036854775807:=he15.Frame
 refine q_c 6 2 [] [[o0,(EM 1 b1 o2 c.Aa),o0,(oi p),o0,⟨.auto [.via 0 (.slice y8.Ah.a y8.Ah.xs.length y8.Ah.cap)],some (.slice (some ⟨b9,o10,none⟩) y8.Ah.xs.length y8.Ah.cap)⟩,o0,(oi k),(ol 0 (CS.arr y16)),o0,(an 4 2)],[(an 7 1),(an 4 2)]] [Qb z,Ej b1 o2 c.Aa,Dc p,p<c.Aa.xs.length,BM,Old w b1 (o2+p*8+6) (.slice y8.Ah.a y8.Ah.xs.length y8.Ah.cap),Ej b9 o10 y8.Ah,Dc k,k<y8.Ah.xs.length,BM,GN w b9 (o10+k*4) (CS.arr y16),Qb (z+1),Qb (z+1),Qb (z+1),Qb (z+1),Qb z,Qb z,Qb z,Qb z,Qb z,Qb z,Qb z,Qb (z+1),Qb (z+1),Qb (z+1),Qb (z+1)] [(1,Ac p),(2,Ac k),(3,pt z),(Ib z),(22,.agg (Ai.arr c)),(23,.agg (CS.arr y16))] ⟨w,z+2,[(Ak w),(NP z c),(Oj z y16)]⟩ rfl ⟨rfl,Eg ha3,rfl,(by omega),rfl,Aw (hc6 6 _ rfl),Eg ha11,rfl,(by omega),rfl,Em hc14,rfl,rfl,rfl,rfl,rfl,rfl,rfl,rfl,rfl,rfl,rfl,rfl,rfl,rfl,rfl,Ae⟩ ?_
 refine Ba 98 #[.agg (Ai.arr c),.agg (CS.arr y16)] (some 24) (.bool (J3 c y16)) (fun w17 hw17=>rright_calls w17 c (hc.ext (hw17.ext rfl) (fun _ h=>h)) hFr y16 (he15.ext (hw17.ext rfl) (fun _ h=>h))) (fun n18 (hn19:z+2≤n18) => ?_)
 refine Dh [1,2,3,7,24] [(1,Ac p),(2,Ac k),(3,pt z),(Ib z),(24,.bool (J3 c y16))] ?_
 by_cases h20:(J3 c y16)=true
 ·refine AZ 11 0 [0] [[(ov (.bool false))],[o0]] [Value.bool (!(J3 c y16))=Value.bool false] [(1,Ac p),(2,Ac k),(3,pt z),(Ib z),(8,i6 0)] rfl ⟨by simp[h20],Ae⟩ ?_
  refine D8 (fun m a w'=>∃ (n22:Nat) (i:Nat),m=k - i∧n18≤n22∧(i≤k)∧(∀ a,a<i→Qv c p k a=false)∧St 91 [(1,Ac p),(2,Ac k),(3,pt z),(Ib z),(8,Ac i)] [] ⟨w,n22,[(Ak w),(NP z c),(Oj z y16)]⟩ a w') (k - 0) ?_ ?_
  ·intro a w' hs;exact⟨n18,0,rfl,Nat.le_refl _,Nat.zero_le _,fun i hi=>absurd hi (Nat.not_lt_zero i),hs⟩
  rintro m a w' ⟨n22,i,rfl,hn21,hki,hf,hs⟩
  refine(?_:G Tryd.prog 91 [(1,Ac p),(2,Ac k),(3,pt z),(Ib z),(8,Ac i)] [] ⟨w,n22,[(Ak w),(NP z c),(Oj z y16)]⟩ _ _ _) a w' hs
  clear hs a w'
  have hBk:=Yx hFr.2 h20;unfold Bd at hBk
  refine CW <| CW ?_
  by_cases h23:(i:Int)<(k:Int)
  ·refine Au 9 0 [1] [[o0,o0,oT]] [BT ((i:Int)<(k:Int))] [(1,Ac p),(2,Ac k),(3,pt z),(Ib z),(8,Ac i),(28,.bool true)] rfl ⟨bt,Ae⟩ ?_
   have hc24:=hc12 i (show i<y8.Ah.xs.length by omega)
   have he25:=(he7.Ah).2 i (show i<y8.Ah.xs.length by omega)
   obtain⟨y26,hy26⟩:∃ y_,y_=gd y8.Ah.xs i:=⟨_,rfl⟩
   rw[←hy26]at he25 hc24
   have e0y26:DV c p i=y26:=(by dsimp only[DV];rw[hy26,hy8]);have hgfy26:(-9223372036854775808:Int)≤y26.Frame∧y26.Frame≤9223372036854775807:=he25.Frame
   refine q_c 5 8 [] [[o0,(EM 1 b1 o2 c.Aa),o0,(oi p),o0,⟨.auto [.via 0 (.slice y8.Ah.a y8.Ah.xs.length y8.Ah.cap)],some (.slice (some ⟨b9,o10,none⟩) y8.Ah.xs.length y8.Ah.cap)⟩,o0,(oi i),(ol 0 (CS.arr y26)),o0,(an 4 3)],[o0,(a1 2),o0,(a1 2),o0,(a1 3),o0,(a1 3)]] [Qb z,Ej b1 o2 c.Aa,Dc p,p<c.Aa.xs.length,BM,Old w b1 (o2+p*8+6) (.slice y8.Ah.a y8.Ah.xs.length y8.Ah.cap),Ej b9 o10 y8.Ah,Dc i,i<y8.Ah.xs.length,BM,GN w b9 (o10+i*4) (CS.arr y26),Qb n22,Qb n22,Qb n22,Qb n22,Qb (z+1),Qb (z+1),Qb n22,Qb n22] [(1,Ac p),(2,Ac k),(3,pt z),(Ib z),(8,Ac i),(41,i6 y16.Bl),(43,i6 y16.AO),(45,i6 y26.Bl),(47,i6 y26.AO)] ⟨w,n22+1,[(Ak w),(NP z c),(Oj z y16),(bk n22 (CS.arr y26) 147)]⟩ rfl ⟨rfl,Eg ha3,rfl,(by omega),rfl,Aw (hc6 6 _ rfl),Eg ha11,rfl,(by omega),rfl,Em hc24,rfl,rfl,rfl,rfl,rfl,rfl,rfl,rfl,Ae⟩ ?_
   have hm28:=hb p i (by omega) (by omega) (by omega);rw[e0y26]at hm28;unfold Bd at hm28
   refine Ba 85 #[i6 y16.Bl,i6 y16.AO,i6 y26.Bl,i6 y26.AO] (some 48) (.bool (meet y16.Bl y16.AO y26.Bl y26.AO)) (fun w27 hw27=>SQ w27 y16.Bl y16.AO y26.Bl y26.AO (by omega) (by omega) (by omega) (by omega)) (fun n29 (hn30:n22+1≤n29) => ?_)
   refine Dh [1,2,3,7,8,48] [(1,Ac p),(2,Ac k),(3,pt z),(Ib z),(8,Ac i),(48,.bool (meet y16.Bl y16.AO y26.Bl y26.AO))] ?_
   refine Ve (by kernel_rfl) ?_
   refine Gy ?_
   by_cases h31:(meet y16.Bl y16.AO y26.Bl y26.AO)=true
   ·refine Au 6 0 [3] [[o0]] [Value.bool (meet y16.Bl y16.AO y26.Bl y26.AO)=Value.bool true] [(6,i6 410)] rfl ⟨(congrArg Value.bool h31),Ae⟩ ?_
    refine Az [] [] (i6 410) Ae ?_
    intro w32 hw32
    have hq:EK c p k=_:=regQ_b (by rw[e0y16];exact h20) (range_any (k:=i) (by omega) (by unfold Qv;rw[e0y16,e0y26];exact h31))
    exact⟨congrArg (fun t:Am=>Ending.returned (i6 t.e)) hq.symm,AB hw32⟩
   refine Au 6 0 [2] [[o0,(ov (i6 ((i+1:Nat):Int))),o0]] [Value.bool (meet y16.Bl y16.AO y26.Bl y26.AO)=Value.bool false,Wr ((i:Int)+1) (((i+1:Nat):Int))] [(1,Ac p),(2,Ac k),(3,pt z),(Ib z),(8,i6 ((i+1:Nat):Int))] rfl ⟨(congrArg Value.bool (Bool.eq_false_iff.2 h31)),BP,Ae⟩ ?_
   refine Cc [0,1,2] [(Ak w),(NP z c),(Oj z y16)] rfl rfl ?_
   refine BI [1,2,3,7,8] [(1,Ac p),(2,Ac k),(3,pt z),(Ib z),(8,i6 ((i+1:Nat):Int))] ?_
   refine BR (fun a w' hs=>⟨k - (i+1),by omega,n29,(i+1),rfl,by omega,by omega,EP hf (by unfold Qv;rw[e0y16,e0y26];simpa using h31),hs⟩)
  refine Au 15 0 [0] [[o0,o0,oF],[o0]] [BF ((i:Int)<(k:Int))] [(1,Ac p),(2,Ac k),(3,pt z),(Ib z),(10,i6 0)] rfl ⟨bf,Ae⟩ ?_
  refine D8 (fun m a w'=>∃ (n34:Nat) (q:Nat),m=p+1 - q∧n22≤n34∧(q≤p+1)∧(∀ a,a<q→Zf c p k a=false)∧St 91 [(1,Ac p),(2,Ac k),(3,pt z),(Ib z),(10,Ac q)] [] ⟨w,n34,[(Ak w),(NP z c),(Oj z y16)]⟩ a w') (p+1 - 0) ?_ ?_
  ·intro a w' hs;exact⟨n22,0,rfl,Nat.le_refl _,Nat.zero_le _,fun i hi=>absurd hi (Nat.not_lt_zero i),hs⟩
  rintro m a w' ⟨n34,q,rfl,hn33,hkq,hg,hs⟩
  refine(?_:G Tryd.prog 91 [(1,Ac p),(2,Ac k),(3,pt z),(Ib z),(10,Ac q)] [] ⟨w,n34,[(Ak w),(NP z c),(Oj z y16)]⟩ _ _ _) a w' hs
  clear hs a w'
  have hf0:(List.range k).any (Qv c p k)=false:=Gv (fun a ha=>hf a (by omega))
  refine CW <| CW ?_
  by_cases h35:(p:Int)<(q:Int)
  ·refine Au 14 0 [0] [[o0,o0,oF],[o0]] [BF ((q:Int)≤(p:Int))] [(6,i6 0)] rfl ⟨bf,Ae⟩ ?_
   refine Az [] [] (i6 0) Ae ?_
   intro w36 hw36
   have hq:EK c p k=_:=regQ_d (by rw[e0y16];exact h20) hf0 (Gv (fun i hi=>hg i (by omega)))
   exact⟨congrArg (fun t:Am=>Ending.returned (i6 t.e)) hq.symm,AB hw36⟩
  refine Au 13 0 [1] [[o0,o0,oT],[o0]] [BT ((q:Int)≤(p:Int))] [(1,Ac p),(2,Ac k),(3,pt z),(Ib z),(10,Ac q),(11,i6 0)] rfl ⟨bt,Ae⟩ ?_
  refine D8 (fun m a w'=>∃ (n38:Nat) (n:Nat),m=(gd c.Aa.xs q).Ah.xs.length - n∧n34≤n38∧(n≤(gd c.Aa.xs q).Ah.xs.length)∧(∀ a,a<n→Qw c p k q a=false)∧St 91 [(1,Ac p),(2,Ac k),(3,pt z),(Ib z),(10,Ac q),(11,Ac n)] [] ⟨w,n38,[(Ak w),(NP z c),(Oj z y16)]⟩ a w') ((gd c.Aa.xs q).Ah.xs.length - 0) ?_ ?_
  ·intro a w' hs;exact⟨n34,0,rfl,Nat.le_refl _,Nat.zero_le _,fun i hi=>absurd hi (Nat.not_lt_zero i),hs⟩
  rintro m a w' ⟨n38,n,rfl,hn37,hkn,hh,hs⟩
  refine(?_:G Tryd.prog 91 [(1,Ac p),(2,Ac k),(3,pt z),(Ib z),(10,Ac q),(11,Ac n)] [] ⟨w,n38,[(Ak w),(NP z c),(Oj z y16)]⟩ _ _ _) a w' hs
  clear hs a w'
  refine CW <| CW ?_
  have hc39:=hc4 q (show q<c.Aa.xs.length by omega)
  have he40:=(hc.Aa).2 q (show q<c.Aa.xs.length by omega)
  obtain⟨y41,hy41⟩:∃ y_,y_=gd c.Aa.xs q:=⟨_,rfl⟩
  rw[←hy41]at he40 hc39
  have hley41:y41.Ah.xs.length=(gd c.Aa.xs q).Ah.xs.length:=(by rw[hy41]);have hyly41:=he40.Ah.1.len
  by_cases h42:(n:Int)<(y41.Ah.xs.length:Int)
  ·refine Au 10 0 [1] [[o0,o0,(EM 1 b1 o2 c.Aa),o0,(oi q),o0,(oa [.via 0 (.slice y41.Ah.a y41.Ah.xs.length y41.Ah.cap)]),o0,oT]] [Qb z,Ej b1 o2 c.Aa,Dc q,q<c.Aa.xs.length,BM,Old w b1 (o2+q*8+6) (.slice y41.Ah.a y41.Ah.xs.length y41.Ah.cap),BT ((n:Int)<(y41.Ah.xs.length:Int))] [(1,Ac p),(2,Ac k),(3,pt z),(Ib z),(10,Ac q),(11,Ac n),(62,.bool true)] rfl ⟨rfl,Eg ha3,rfl,(by omega),rfl,Aw (hc39 6 _ rfl),bt,Ae⟩ ?_
   by_cases h43:(q:Int)=(p:Int)
   ·by_cases h44:(n:Int)<(k:Int)
    ·refine Au 7 0 [0] [[o0,o0,oT,o0,o0,o0,oF,o0]] [ET (q:Int) (p:Int),BF ((n:Int)≥(k:Int))] [(1,Ac p),(2,Ac k),(3,pt z),(Ib z),(10,Ac q),(11,Ac n),(72,.bool false)] rfl ⟨et,bf,Ae⟩ ?_
     obtain⟨b45,o46,ha47,hF49,hc48⟩:=(he40.Ah).1.all (show 0<y41.Ah.xs.length by omega)
     replace ha47:y41.Ah.a=some ⟨b45,o46,none⟩:=ha47
     have hc50:=hc48 n (show n<y41.Ah.xs.length by omega)
     have he51:=(he40.Ah).2 n (show n<y41.Ah.xs.length by omega)
     obtain⟨y52,hy52⟩:∃ y_,y_=gd y41.Ah.xs n:=⟨_,rfl⟩
     rw[←hy52]at he51 hc50
     have e0y52:DV c q n=y52:=(by dsimp only[DV];rw[hy52,hy41]);have hgfy52:(-9223372036854775808:Int)≤y52.Frame∧y52.Frame≤9223372036854775807:=he51.Frame
     refine q_c 5 8 [] [[o0,(EM 1 b1 o2 c.Aa),o0,(oi q),o0,⟨.auto [.via 0 (.slice y41.Ah.a y41.Ah.xs.length y41.Ah.cap)],some (.slice (some ⟨b45,o46,none⟩) y41.Ah.xs.length y41.Ah.cap)⟩,o0,(oi n),(ol 0 (CS.arr y52)),o0,(an 4 3)],[o0,(a1 2),o0,(a1 2),o0,(a1 3),o0,(a1 3)]] [Qb z,Ej b1 o2 c.Aa,Dc q,q<c.Aa.xs.length,BM,Old w b1 (o2+q*8+6) (.slice y41.Ah.a y41.Ah.xs.length y41.Ah.cap),Ej b45 o46 y41.Ah,Dc n,n<y41.Ah.xs.length,BM,GN w b45 (o46+n*4) (CS.arr y52),Qb n38,Qb n38,Qb n38,Qb n38,Qb (z+1),Qb (z+1),Qb n38,Qb n38] [(1,Ac p),(2,Ac k),(3,pt z),(Ib z),(10,Ac q),(11,Ac n),(83,i6 y16.Frame),(85,i6 y16.AO),(87,i6 y52.Frame),(89,i6 y52.AO)] ⟨w,n38+1,[(Ak w),(NP z c),(Oj z y16),(bk n38 (CS.arr y52) 147)]⟩ rfl ⟨rfl,Eg ha3,rfl,(by omega),rfl,Aw (hc39 6 _ rfl),Eg ha47,rfl,(by omega),rfl,Em hc50,rfl,rfl,rfl,rfl,rfl,rfl,rfl,rfl,Ae⟩ ?_
     have hm54:=hb q n (by omega) (by omega) (by omega);rw[e0y52]at hm54;unfold Bd at hm54
     refine Ba 85 #[i6 y16.Frame,i6 y16.AO,i6 y52.Frame,i6 y52.AO] (some 90) (.bool (meet y16.Frame y16.AO y52.Frame y52.AO)) (fun w53 hw53=>SQ w53 y16.Frame y16.AO y52.Frame y52.AO (by omega) (by omega) (by omega) (by omega)) (fun n55 (hn56:n38+1≤n55) => ?_)
     refine Dh [1,2,3,7,10,11,90] [(1,Ac p),(2,Ac k),(3,pt z),(Ib z),(10,Ac q),(11,Ac n),(90,.bool (meet y16.Frame y16.AO y52.Frame y52.AO))] ?_
     refine Ve (by kernel_rfl) ?_
     refine Gy ?_
     by_cases h57:(meet y16.Frame y16.AO y52.Frame y52.AO)=true
     ·refine Au 6 0 [3] [[o0]] [Value.bool (meet y16.Frame y16.AO y52.Frame y52.AO)=Value.bool true] [(6,i6 411)] rfl ⟨(congrArg Value.bool h57),Ae⟩ ?_
      refine Az [] [] (i6 411) Ae ?_
      intro w58 hw58
      have hq:EK c p k=_:=WP (by rw[e0y16];exact h20) hf0 (range_any (k:=q) (by omega) (range_any (k:=n) (by dsimp only[Es];omega) (by unfold Qw;rw[e0y16,e0y52,h57];simp;omega)))
      exact⟨congrArg (fun t:Am=>Ending.returned (i6 t.e)) hq.symm,AB hw58⟩
     refine Au 6 0 [2] [[o0,(ov (i6 ((n+1:Nat):Int))),o0]] [Value.bool (meet y16.Frame y16.AO y52.Frame y52.AO)=Value.bool false,Wr ((n:Int)+1) (((n+1:Nat):Int))] [(1,Ac p),(2,Ac k),(3,pt z),(Ib z),(10,Ac q),(11,i6 ((n+1:Nat):Int))] rfl ⟨(congrArg Value.bool (Bool.eq_false_iff.2 h57)),BP,Ae⟩ ?_
     refine Cc [0,1,2] [(Ak w),(NP z c),(Oj z y16)] rfl rfl ?_
     refine BI [1,2,3,7,10,11] [(1,Ac p),(2,Ac k),(3,pt z),(Ib z),(10,Ac q),(11,i6 ((n+1:Nat):Int))] ?_
     refine BR (fun a w' hs=>⟨(gd c.Aa.xs q).Ah.xs.length - (n+1),by omega,n55,(n+1),rfl,by omega,by omega,EP hh (by unfold Qw;rw[e0y16,e0y52];simp[h57]),hs⟩)
    refine Au 14 0 [1] [[o0,o0,oT,o0,o0,o0,oT,o0],[o0,(ov (i6 ((q+1:Nat):Int))),o0]] [ET (q:Int) (p:Int),BT ((n:Int)≥(k:Int)),Wr ((q:Int)+1) (((q+1:Nat):Int))] [(1,Ac p),(2,Ac k),(3,pt z),(Ib z),(10,i6 ((q+1:Nat):Int))] rfl ⟨et,bt,BP,Ae⟩ ?_
    refine BR (fun a w' hs=>⟨p+1 - (q+1),by omega,n38,(q+1),rfl,by omega,by omega,EP hg (Gv (fun i hi=>if h9:i<n then hh i h9 else(by dsimp only[Es]at hi;unfold Qw;rw[show(decide (q<p)||decide (i<k))=false from by simp;omega];rfl))),hs⟩)
   refine Au 7 0 [0] [[o0,o0,oF,o0,o0]] [EF (q:Int) (p:Int)] [(1,Ac p),(2,Ac k),(3,pt z),(Ib z),(10,Ac q),(11,Ac n),(72,.bool false)] rfl ⟨ef,Ae⟩ ?_
   obtain⟨b59,o60,ha61,hF63,hc62⟩:=(he40.Ah).1.all (show 0<y41.Ah.xs.length by omega)
   replace ha61:y41.Ah.a=some ⟨b59,o60,none⟩:=ha61
   have hc64:=hc62 n (show n<y41.Ah.xs.length by omega)
   have he65:=(he40.Ah).2 n (show n<y41.Ah.xs.length by omega)
   obtain⟨y66,hy66⟩:∃ y_,y_=gd y41.Ah.xs n:=⟨_,rfl⟩
   rw[←hy66]at he65 hc64
   have e0y66:DV c q n=y66:=(by dsimp only[DV];rw[hy66,hy41]);have hgfy66:(-9223372036854775808:Int)≤y66.Frame∧y66.Frame≤9223372036854775807:=he65.Frame
   refine q_c 5 8 [] [[o0,(EM 1 b1 o2 c.Aa),o0,(oi q),o0,⟨.auto [.via 0 (.slice y41.Ah.a y41.Ah.xs.length y41.Ah.cap)],some (.slice (some ⟨b59,o60,none⟩) y41.Ah.xs.length y41.Ah.cap)⟩,o0,(oi n),(ol 0 (CS.arr y66)),o0,(an 4 3)],[o0,(a1 2),o0,(a1 2),o0,(a1 3),o0,(a1 3)]] [Qb z,Ej b1 o2 c.Aa,Dc q,q<c.Aa.xs.length,BM,Old w b1 (o2+q*8+6) (.slice y41.Ah.a y41.Ah.xs.length y41.Ah.cap),Ej b59 o60 y41.Ah,Dc n,n<y41.Ah.xs.length,BM,GN w b59 (o60+n*4) (CS.arr y66),Qb n38,Qb n38,Qb n38,Qb n38,Qb (z+1),Qb (z+1),Qb n38,Qb n38] [(1,Ac p),(2,Ac k),(3,pt z),(Ib z),(10,Ac q),(11,Ac n),(83,i6 y16.Frame),(85,i6 y16.AO),(87,i6 y66.Frame),(89,i6 y66.AO)] ⟨w,n38+1,[(Ak w),(NP z c),(Oj z y16),(bk n38 (CS.arr y66) 147)]⟩ rfl ⟨rfl,Eg ha3,rfl,(by omega),rfl,Aw (hc39 6 _ rfl),Eg ha61,rfl,(by omega),rfl,Em hc64,rfl,rfl,rfl,rfl,rfl,rfl,rfl,rfl,Ae⟩ ?_
   have hm68:=hb q n (by omega) (by omega) (by omega);rw[e0y66]at hm68;unfold Bd at hm68
   refine Ba 85 #[i6 y16.Frame,i6 y16.AO,i6 y66.Frame,i6 y66.AO] (some 90) (.bool (meet y16.Frame y16.AO y66.Frame y66.AO)) (fun w67 hw67=>SQ w67 y16.Frame y16.AO y66.Frame y66.AO (by omega) (by omega) (by omega) (by omega)) (fun n69 (hn70:n38+1≤n69) => ?_)
   refine Dh [1,2,3,7,10,11,90] [(1,Ac p),(2,Ac k),(3,pt z),(Ib z),(10,Ac q),(11,Ac n),(90,.bool (meet y16.Frame y16.AO y66.Frame y66.AO))] ?_
   refine Ve (by kernel_rfl) ?_
   refine Gy ?_
   by_cases h71:(meet y16.Frame y16.AO y66.Frame y66.AO)=true
   ·refine Au 6 0 [3] [[o0]] [Value.bool (meet y16.Frame y16.AO y66.Frame y66.AO)=Value.bool true] [(6,i6 411)] rfl ⟨(congrArg Value.bool h71),Ae⟩ ?_
    refine Az [] [] (i6 411) Ae ?_
    intro w72 hw72
    have hq:EK c p k=_:=WP (by rw[e0y16];exact h20) hf0 (range_any (k:=q) (by omega) (range_any (k:=n) (by dsimp only[Es];omega) (by unfold Qw;rw[e0y16,e0y66,h71];simp;omega)))
    exact⟨congrArg (fun t:Am=>Ending.returned (i6 t.e)) hq.symm,AB hw72⟩
   refine Au 6 0 [2] [[o0,(ov (i6 ((n+1:Nat):Int))),o0]] [Value.bool (meet y16.Frame y16.AO y66.Frame y66.AO)=Value.bool false,Wr ((n:Int)+1) (((n+1:Nat):Int))] [(1,Ac p),(2,Ac k),(3,pt z),(Ib z),(10,Ac q),(11,i6 ((n+1:Nat):Int))] rfl ⟨(congrArg Value.bool (Bool.eq_false_iff.2 h71)),BP,Ae⟩ ?_
   refine Cc [0,1,2] [(Ak w),(NP z c),(Oj z y16)] rfl rfl ?_
   refine BI [1,2,3,7,10,11] [(1,Ac p),(2,Ac k),(3,pt z),(Ib z),(10,Ac q),(11,i6 ((n+1:Nat):Int))] ?_
   refine BR (fun a w' hs=>⟨(gd c.Aa.xs q).Ah.xs.length - (n+1),by omega,n69,(n+1),rfl,by omega,by omega,EP hh (by unfold Qw;rw[e0y16,e0y66];simp[h71]),hs⟩)
  refine Au 12 0 [0] [[o0,o0,(EM 1 b1 o2 c.Aa),o0,(oi q),o0,(oa [.via 0 (.slice y41.Ah.a y41.Ah.xs.length y41.Ah.cap)]),o0,oF],[o0,(ov (i6 ((q+1:Nat):Int))),o0]] [Qb z,Ej b1 o2 c.Aa,Dc q,q<c.Aa.xs.length,BM,Old w b1 (o2+q*8+6) (.slice y41.Ah.a y41.Ah.xs.length y41.Ah.cap),BF ((n:Int)<(y41.Ah.xs.length:Int)),Wr ((q:Int)+1) (((q+1:Nat):Int))] [(1,Ac p),(2,Ac k),(3,pt z),(Ib z),(10,i6 ((q+1:Nat):Int))] rfl ⟨rfl,Eg ha3,rfl,(by omega),rfl,Aw (hc39 6 _ rfl),bf,BP,Ae⟩ ?_
  refine BR (fun a w' hs=>⟨p+1 - (q+1),by omega,n38,(q+1),rfl,by omega,by omega,EP hg (Gv (fun i hi=>if h9:i<n then hh i h9 else(by dsimp only[Es]at hi;unfold Qw;rw[show(decide (q<p)||decide (i<k))=false from by simp;omega];rfl))),hs⟩)
 refine AZ 8 0 [1] [[(ov (.bool true))],[o0]] [Value.bool (!(J3 c y16))=Value.bool true] [(6,i6 409)] rfl ⟨by simp[h20],Ae⟩ ?_
 refine Az [] [] (i6 409) Ae ?_
 intro w73 hw73
 have hq:EK c p k=_:=UL (by rw[e0y16];simpa using h20)
 exact⟨congrArg (fun t:Am=>Ending.returned (i6 t.e)) hq.symm,AB hw73⟩
section
variable (z p:Nat)(y8:Aq)(c:Ai)
abbrev Tu:=bk (z+1) #[(Ac p),i6 (-1)] 108
abbrev Uo:=bk (z+1) #[i6 0,i6 0] 108
abbrev MC:=bk (z+2) (Aq.arr y8) 35
abbrev L6:=bk z (Ai.arr c) 26
abbrev EL:=(5,pt (z+1))
abbrev Ic:=(6,pt (z+2))
end
theorem YZ(w:World)(c:Ai)(hc:Ai.ok Any w c)(p:Nat)(hp:p<c.Aa.xs.length)(hFr:1≤c.Frames∧c.Frames≤1024)(hpf:∀ q,q<p→CP c q=AQ):Calls Tryd.prog 56 #[.agg (Ai.arr c),.int .i64 (p:Int)] w fun e w'=>e = .returned (.tuple #[.int .i64 (CP c p).e,.agg #[.int .i64 (CP c p).Ag.First,.int .i64 (CP c p).Ag.Second]])∧Ce (fun _=>False) w w':=by
 obtain⟨z,hz⟩:∃ z,z=w.heap.size:=⟨_,rfl⟩
 refine Bf (args:=[.agg (Ai.arr c),Ac p]) 107 ⟨w,z,[(Ak w)]⟩ Tryd.func56 rfl (by kernel_rfl) (by kernel_rfl) (Ed hz) ?_
 have hpl:=hc.Aa.1.len;have hpc:=hc.Aa.1.le;have hcl:=hc.Aj.1.len
 refine Di [0,1] [(0,.agg (Ai.arr c)),(1,Ac p)] ?_
 refine q_c 5 0 [] [[o0,o0,o0]] [] [(1,Ac p),(2,pt z),(EL z)] ⟨w,z+2,[(Ak w),(L6 z c),(Uo z)]⟩ rfl Ae ?_
 obtain⟨b1,o2,ha3,hF5,hc4⟩:=(hc.Aa).1.all (show 0<c.Aa.xs.length by omega)
 replace ha3:c.Aa.a=some ⟨b1,o2,none⟩:=ha3
 have hc6:=hc4 p (show p<c.Aa.xs.length by omega)
 have he7:=(hc.Aa).2 p (show p<c.Aa.xs.length by omega)
 obtain⟨y8,hy8⟩:∃ y_,y_=gd c.Aa.xs p:=⟨_,rfl⟩
 rw[←hy8]at he7 hc6
 have eP:Es c p=y8:=hy8.symm;have hyr:y8.Ah.xs.length=(Es c p).Ah.xs.length:=(by rw[eP]);have hyq:y8.Ap.xs.length=(Es c p).Ap.xs.length:=(by rw[eP]);have hyl:=he7.Ah.1.len;have hyl2:=he7.Ap.1.len
 refine q_c 7 2 [] [[o0,(EM 1 b1 o2 c.Aa),o0,(oi p),(ol 0 (Aq.arr y8)),o0,(an 8 3)],[(an 7 1),o0]] [Qb z,Ej b1 o2 c.Aa,Dc p,p<c.Aa.xs.length,BM,GN w b1 (o2+p*8) (Aq.arr y8),Qb (z+2),Qb (z+2),Qb (z+2),Qb (z+2),Qb (z+2),Qb (z+2),Qb (z+2),Qb (z+2),Qb z,Qb z,Qb z,Qb z,Qb z,Qb z,Qb z] [(1,Ac p),(2,pt z),(EL z),(Ic z),(16,.agg (Ai.arr c)),(17,Ac p)] ⟨w,z+3,[(Ak w),(L6 z c),(Uo z),(MC z y8)]⟩ rfl ⟨rfl,Eg ha3,rfl,(by omega),rfl,Em hc6,rfl,rfl,rfl,rfl,rfl,rfl,rfl,rfl,rfl,rfl,rfl,rfl,rfl,rfl,rfl,Ae⟩ ?_
 refine Ba 80 #[.agg (Ai.arr c),Ac p] (some 18) (.bool (AP c p)) (fun w9 hw9=>rnamed_calls w9 c (hc.ext (hw9.ext rfl) (fun _ h=>h)) p hp) (fun n10 (hn11:z+3≤n10) => ?_)
 refine Dh [1,2,5,6,18] [(1,Ac p),(2,pt z),(EL z),(Ic z),(18,.bool (AP c p))] ?_
 by_cases h12:(AP c p)=true
 ·refine AZ 5 2 [0] [[(ov (.bool false)),o0],[o0,(a1 3)]] [Value.bool (!(AP c p))=Value.bool false,Qb (z+2)] [(1,Ac p),(2,pt z),(EL z),(Ic z),(24,i6 y8.Dx)] rfl ⟨by simp[h12],rfl,Ae⟩ ?_
  refine Ba 79 #[i6 y8.Dx,i6 0,i6 2] (some 25) (.bool (win y8.Dx 0 2)) (fun w13 hw13=>Gj w13 y8.Dx 0 2) (fun n14 (hn15:n10≤n14) => ?_)
  refine Dh [1,2,5,6,25] [(1,Ac p),(2,pt z),(EL z),(Ic z),(25,.bool (win y8.Dx 0 2))] ?_
  by_cases h16:(win y8.Dx 0 2)=true
  ·have hd17:=Dz h16
   refine AZ 0 4 [] [[(ov (.bool false)),o0,o0,(a1 3)]] [Value.bool (!(win y8.Dx 0 2))=Value.bool false,Qb (z+2)] [(1,Ac p),(2,pt z),(EL z),(Ic z),(27,.bool false),(29,i6 y8.A7)] rfl ⟨by simp[h16],rfl,Ae⟩ ?_
   refine Ba 79 #[i6 y8.A7,i6 0,i6 15] (some 30) (.bool (win y8.A7 0 15)) (fun w18 hw18=>Gj w18 y8.A7 0 15) (fun n19 (hn20:n14≤n19) => ?_)
   refine Dh [1,2,5,6,27,30] [(1,Ac p),(2,pt z),(EL z),(Ic z),(27,.bool false),(30,.bool (win y8.A7 0 15))] ?_
   by_cases h21:(win y8.A7 0 15)=true
   ·have hd22:=Dz h21
    refine AZ 5 2 [0] [[(ov (.bool false)),o0,o0],[o0,(a1 3)]] [Value.bool (!(win y8.A7 0 15))=Value.bool false,Qb (z+2)] [(1,Ac p),(2,pt z),(EL z),(Ic z),(37,i6 y8.F7)] rfl ⟨by simp[h21],rfl,Ae⟩ ?_
    refine Ba 79 #[i6 y8.F7,i6 0,i6 16] (some 38) (.bool (win y8.F7 0 16)) (fun w23 hw23=>Gj w23 y8.F7 0 16) (fun n24 (hn25:n19≤n24) => ?_)
    refine Dh [1,2,5,6,38] [(1,Ac p),(2,pt z),(EL z),(Ic z),(38,.bool (win y8.F7 0 16))] ?_
    by_cases h26:(win y8.F7 0 16)=true
    ·have hd27:=Dz h26
     refine AZ 0 4 [] [[(ov (.bool false)),o0,o0,(a1 3)]] [Value.bool (!(win y8.F7 0 16))=Value.bool false,Qb (z+2)] [(1,Ac p),(2,pt z),(EL z),(Ic z),(40,.bool false),(42,i6 y8.AV)] rfl ⟨by simp[h26],rfl,Ae⟩ ?_
     refine Ba 79 #[i6 y8.AV,i6 0,i6 16] (some 43) (.bool (win y8.AV 0 16)) (fun w28 hw28=>Gj w28 y8.AV 0 16) (fun n29 (hn30:n24≤n29) => ?_)
     refine Dh [1,2,5,6,40,43] [(1,Ac p),(2,pt z),(EL z),(Ic z),(40,.bool false),(43,.bool (win y8.AV 0 16))] ?_
     by_cases h31:(win y8.AV 0 16)=true
     ·have hd32:=Dz h31
      refine AZ 5 3 [0] [[(ov (.bool false)),o0,o0],[o0,(a1 3),o0]] [Value.bool (!(win y8.AV 0 16))=Value.bool false,Qb (z+2)] [(1,Ac p),(2,pt z),(EL z),(Ic z),(51,Ac y8.Ah.xs.length)] rfl ⟨by simp[h31],rfl,Ae⟩ ?_
      refine Ba 79 #[(Ac y8.Ah.xs.length),i6 1,i6 8] (some 52) (.bool (win (y8.Ah.xs.length:Int) 1 8)) (fun w33 hw33=>Gj w33 (y8.Ah.xs.length:Int) 1 8) (fun n34 (hn35:n29≤n34) => ?_)
      refine Dh [1,2,5,6,52] [(1,Ac p),(2,pt z),(EL z),(Ic z),(52,.bool (win (y8.Ah.xs.length:Int) 1 8))] ?_
      by_cases h36:(win (y8.Ah.xs.length:Int) 1 8)=true
      ·have hd37:=Dz h36
       refine AZ 12 0 [0] [[(ov (.bool false)),o0],[o0]] [Value.bool (!(win (y8.Ah.xs.length:Int) 1 8))=Value.bool false] [(1,Ac p),(2,pt z),(EL z),(Ic z),(7,i6 0)] rfl ⟨by simp[h36],Ae⟩ ?_
       refine D8 (fun m a w'=>∃ (n39:Nat) (k:Nat),m=(Es c p).Ah.xs.length - k∧n34≤n39∧(k≤(Es c p).Ah.xs.length)∧(∀ a,a<k→EK c p a=AQ)∧St 107 [(1,Ac p),(2,pt z),(EL z),(Ic z),(7,Ac k)] [] ⟨w,n39,[(Ak w),(L6 z c),(Uo z),(MC z y8)]⟩ a w') ((Es c p).Ah.xs.length - 0) ?_ ?_
       ·intro a w' hs;exact⟨n34,0,rfl,Nat.le_refl _,Nat.zero_le _,fun i hi=>absurd hi (Nat.not_lt_zero i),hs⟩
       rintro m a w' ⟨n39,k,rfl,hn38,hkk,hf,hs⟩
       refine(?_:G Tryd.prog 107 [(1,Ac p),(2,pt z),(EL z),(Ic z),(7,Ac k)] [] ⟨w,n39,[(Ak w),(L6 z c),(Uo z),(MC z y8)]⟩ _ _ _) a w' hs
       clear hs a w'
       have hA0:AY (Gw c p)=AQ:=by unfold Gw;simp only[eP];simp[AY,Af,AQ,h12,h16,h21,h26,h31,h36]
       refine CW <| CW ?_
       by_cases h40:(k:Int)<(y8.Ah.xs.length:Int)
       ·refine Au 10 3 [1] [[o0,o0,(a1 3),o0,oT],[(an 7 1),o0,o0]] [Qb (z+2),BT ((k:Int)<(y8.Ah.xs.length:Int)),Qb z,Qb z,Qb z,Qb z,Qb z,Qb z,Qb z] [(1,Ac p),(2,pt z),(EL z),(Ic z),(7,Ac k),(63,.agg (Ai.arr c)),(64,Ac p),(65,Ac k)] rfl ⟨rfl,bt,rfl,rfl,rfl,rfl,rfl,rfl,rfl,Ae⟩ ?_
        refine Ba 81 #[.agg (Ai.arr c),Ac p,Ac k] (some 66) (i6 ((EK c p k).e)) (fun w41 hw41=>rregion_calls w41 c (hc.ext (hw41.ext rfl) (fun _ h=>h)) p k hp (show k<(Es c p).Ah.xs.length by omega) hFr (bd_all hFr hpf hf)) (fun n42 (hn43:n39≤n42) => ?_)
        refine AZ 3 0 [] [[o0]] [] [(1,Ac p),(2,pt z),(EL z),(Ic z),(7,Ac k),(8,i6 ((EK c p k).e))] rfl Ae ?_
        by_cases h44:((EK c p k).e:Int)=0
        ·refine Au 9 0 [0] [[o0,oF],[o0,(ov (i6 ((k+1:Nat):Int))),o0]] [NF ((EK c p k).e) 0,Wr ((k:Int)+1) (((k+1:Nat):Int))] [(1,Ac p),(2,pt z),(EL z),(Ic z),(7,i6 ((k+1:Nat):Int))] rfl ⟨nf,BP,Ae⟩ ?_
         refine BR (fun a w' hs=>⟨(Es c p).Ah.xs.length - (k+1),by omega,n42,(k+1),rfl,by omega,by omega,EP hf (Zl.1 h44),hs⟩)
        refine q_c 9 0 [1] [[o0,oT],[o0,o0,o0,o0,o0,(an 2 2)]] [NT ((EK c p k).e) 0,Qb (z+1),Qb (z+1)] [(EL z),(4,i6 ((EK c p k).e))] ⟨w,n42,[(Ak w),(L6 z c),(bk (z+1) #[(Ac p),Ac k] 108),(MC z y8)]⟩ rfl ⟨nt,rfl,rfl,Ae⟩ ?_
        refine Az [.at 2,.at 2] [Qb (z+1),Qb (z+1)] (.tuple #[i6 ((EK c p k).e),.agg #[(Ac p),Ac k]]) ⟨rfl,rfl,Ae⟩ ?_
        intro w45 hw45
        have hw9:(EK c p k).Ag=⟨p,k⟩:=by rcases okf_reg c p k with e | e;exact absurd (Zl.2 e) h44;exact e.2
        have hq:CP c p=EK c p k:=partQ_r hA0 hf (by omega) (fun e=>h44 (Zl.2 e))
        exact⟨congrArg Ending.returned (by rw[hq,hw9]),AB hw45⟩
       refine Au 12 1 [0] [[o0,o0,(a1 3),o0,oF],[(an 8 3)]] [Qb (z+2),BF ((k:Int)<(y8.Ah.xs.length:Int)),Qb (z+2),Qb (z+2),Qb (z+2),Qb (z+2),Qb (z+2),Qb (z+2),Qb (z+2),Qb (z+2)] [(1,Ac p),(2,pt z),(EL z),(Ic z),(73,.agg (Aq.arr y8))] rfl ⟨rfl,bf,rfl,rfl,rfl,rfl,rfl,rfl,rfl,rfl,Ae⟩ ?_
       have hBf:∀ a,a<(Es c p).Ah.xs.length→EK c p a=AQ:=fun a ha=>hf a (by omega)
       have hB0:Jd c p=AQ:=XD hA0 hBf
       refine Ba 82 #[.agg (Aq.arr y8)] (some 74) (.bool (Nz y8)) (fun w46 hw46=>rentry_calls w46 y8 (he7.ext (hw46.ext rfl) (fun _ h=>h)) (fun k hk=>by have hz:=Yx hFr.2 (UX (hBf k (by rw[←hyr];exact hk)));rw[show DV c p k=gd y8.Ah.xs k from by dsimp only[DV];rw[←hy8]]at hz;unfold Bd at hz;exact⟨hz.1,hz.2.1⟩)) (fun n47 (hn48:n39≤n47) => ?_)
       refine Dh [1,2,5,6,74] [(1,Ac p),(2,pt z),(EL z),(Ic z),(74,.bool (Nz y8))] ?_
       by_cases h49:(Nz y8)=true
       ·refine AZ 7 0 [0] [[(ov (.bool false))]] [Value.bool (!(Nz y8))=Value.bool false] [(1,Ac p),(2,pt z),(EL z),(Ic z),(75,.bool false)] rfl ⟨by simp[h49],Ae⟩ ?_
        by_cases h50:(8:Int)<(y8.Ap.xs.length:Int)
        ·refine Au 6 1 [1] [[o0,(a1 3),o0,oT],[o0]] [Qb (z+2),BT ((y8.Ap.xs.length:Int) > 8)] [(EL z),(82,Ac p)] rfl ⟨rfl,bt,Ae⟩ ?_
         refine Ba 58 #[(Ac p)] (some 83) (.agg #[(Ac p),i6 (-1)]) (fun w51 hw51=>JW w51 (p:Int)) (fun n52 (hn53:n47≤n52) => ?_)
         refine EI 3 0 [] [[o0,(an 2 2)]] [Qb (z+1),Qb (z+1)] [(EL z),(4,i6 413)] ⟨w,n52,[(Ak w),(L6 z c),(Tu z p),(MC z y8)]⟩ rfl ⟨rfl,rfl,Ae⟩ ?_
         refine Az [.at 2,.at 2] [Qb (z+1),Qb (z+1)] (.tuple #[i6 413,.agg #[(Ac p),i6 (-1)]]) ⟨rfl,rfl,Ae⟩ ?_
         intro w54 hw54
         have hq:CP c p=⟨413,⟨(p:Int), -1⟩⟩:=(partQ_e hB0 (by unfold H8;simp only[eP];rw[show(win y8.Entry 0 4095&&Gh y8)=true from h49];(try simp[AY,Af,AQ,show ¬ y8.Ap.xs.length≤8 by omega]))).trans (by unfold H8;simp only[eP];rw[show(win y8.Entry 0 4095&&Gh y8)=true from h49];(try simp[AY,Af,AQ,show ¬ y8.Ap.xs.length≤8 by omega]))
         exact⟨congrArg (fun t:Am=>Ending.returned (.tuple #[i6 t.e,.agg #[i6 t.Ag.First,i6 t.Ag.Second]])) hq.symm,AB hw54⟩
        refine Au 12 0 [0] [[o0,(a1 3),o0,oF],[o0]] [Qb (z+2),BF ((y8.Ap.xs.length:Int) > 8)] [(1,Ac p),(2,pt z),(EL z),(Ic z),(9,i6 0)] rfl ⟨rfl,bf,Ae⟩ ?_
        refine D8 (fun m a w'=>∃ (n56:Nat) (k:Nat),m=(Es c p).Ap.xs.length - k∧n47≤n56∧(k≤(Es c p).Ap.xs.length)∧(∀ a,a<k→JH c p a=AQ)∧St 107 [(1,Ac p),(2,pt z),(EL z),(Ic z),(9,Ac k)] [] ⟨w,n56,[(Ak w),(L6 z c),(Uo z),(MC z y8)]⟩ a w') ((Es c p).Ap.xs.length - 0) ?_ ?_
        ·intro a w' hs;exact⟨n47,0,rfl,Nat.le_refl _,Nat.zero_le _,fun i hi=>absurd hi (Nat.not_lt_zero i),hs⟩
        rintro m a w' ⟨n56,k,rfl,hn55,hkk,hg,hs⟩
        refine(?_:G Tryd.prog 107 [(1,Ac p),(2,pt z),(EL z),(Ic z),(9,Ac k)] [] ⟨w,n56,[(Ak w),(L6 z c),(Uo z),(MC z y8)]⟩ _ _ _) a w' hs
        clear hs a w'
        have hE0:AY (H8 c p)=AQ:=by unfold H8;simp only[eP];rw[show(win y8.Entry 0 4095&&Gh y8)=true from h49];simp[AY,Af,AQ,show y8.Ap.xs.length≤8 by omega]
        refine CW <| CW ?_
        by_cases h57:(k:Int)<(y8.Ap.xs.length:Int)
        ·refine Au 9 0 [1] [[o0,o0,(a1 3),o0,oT]] [Qb (z+2),BT ((k:Int)<(y8.Ap.xs.length:Int))] [(1,Ac p),(2,pt z),(EL z),(Ic z),(9,Ac k),(88,.bool true)] rfl ⟨rfl,bt,Ae⟩ ?_
         obtain⟨b58,o59,ha60,hF62,hc61⟩:=(he7.Ap).1.all (show 0<y8.Ap.xs.length by omega)
         replace ha60:y8.Ap.a=some ⟨b58,o59,none⟩:=ha60
         have hc63:=hc61 k (show k<y8.Ap.xs.length by omega)
         have he64:=(he7.Ap).2 k (show k<y8.Ap.xs.length by omega)
         obtain⟨y65,hy65⟩:∃ y_,y_=gd y8.Ap.xs k:=⟨_,rfl⟩
         rw[←hy65]at he64 hc63
         have eQ:Zk c p k=y65:=(by dsimp only[Zk];rw[hy65,hy8])
         refine DZ 12 [0,1,2,3] [(Ak w),(L6 z c),(Uo z),(MC z y8)] rfl rfl ?_
         refine Ll [.tk 0 o0,.tk 1 (EM 3 b58 o59 y8.Ap),.tk 2 o0,.tk 3 (oi k),.tk 4 o0,.tk 5 (oa [.via 0 (i6 y65.Channel)]),.tk 6 o0,.tk 7 (a1 1),.tk 8 o0,.tk 9 (ov (i6 ((c.Aj.xs.length:Int) - 1))),.cl 10 (.bool (win y65.Channel 0 ((c.Aj.xs.length:Int) - 1)))] [1,2,5,6,9,101] [(79,#[i6 y65.Channel,i6 0,i6 ((c.Aj.xs.length:Int) - 1)],.bool (win y65.Channel 0 ((c.Aj.xs.length:Int) - 1)))] (Dw 11 1) [Qb (z+2),Ej b58 o59 y8.Ap,Dc k,k<y8.Ap.xs.length,BM,Old w b58 (o59+k*2) (i6 y65.Channel),Qb z,Wr ((c.Aj.xs.length:Int) - 1) ((c.Aj.xs.length:Int) - 1)] [(1,Ac p),(2,pt z),(EL z),(Ic z),(9,Ac k),(101,.bool (win y65.Channel 0 ((c.Aj.xs.length:Int) - 1)))] [0,1,2,3] ⟨rfl,Eg ha60,rfl,(by omega),rfl,Aw (hc63 0 _ rfl),rfl,BP,Ae⟩ ⟨fun w66 hw66=>Gj w66 y65.Channel 0 ((c.Aj.xs.length:Int) - 1),Ae⟩ (fun n67 hn68 => ?_)
         replace hn68:n56≤n67:=hn68
         by_cases h69:(win y65.Channel 0 ((c.Aj.xs.length:Int) - 1))=true
         ·have hd70:=Dz h69
          refine Ci [(11,(ov (.bool false)))] [1,2,5,6,9,102] [Value.bool (!(win y65.Channel 0 ((c.Aj.xs.length:Int) - 1)))=Value.bool false] (Dw 12 0) [(1,Ac p),(2,pt z),(EL z),(Ic z),(9,Ac k),(102,.bool false)] ⟨by simp[h69],Ae⟩ ?_
          refine CE ?_
          refine NU 7 0 [0] [[o0,(ov (i6 ((k+1:Nat):Int))),o0]] [Wr ((k:Int)+1) (((k+1:Nat):Int))] [(1,Ac p),(2,pt z),(EL z),(Ic z),(9,i6 ((k+1:Nat):Int))] rfl ⟨BP,Ae⟩ ?_
          refine BR (fun a w' hs=>⟨(Es c p).Ap.xs.length - (k+1),by omega,n67,(k+1),rfl,by omega,by omega,EP hg (by unfold JH;rw[eQ,h69];rfl),hs⟩)
         have hd71:=FI h69
         refine Ci [(11,(ov (.bool true)))] [1,2,5,6,9,102] [Value.bool (!(win y65.Channel 0 ((c.Aj.xs.length:Int) - 1)))=Value.bool true] (Dw 12 0) [(1,Ac p),(2,pt z),(EL z),(Ic z),(9,Ac k),(102,.bool true)] ⟨by simp[h69],Ae⟩ ?_
         refine CE ?_
         refine q_o 7 0 [1] [[o0,o0,o0,o0,(an 2 2)]] [Qb (z+1),Qb (z+1)] [(EL z),(4,i6 414)] ⟨w,n67,[(Ak w),(L6 z c),(bk (z+1) #[(Ac p),Ac k] 108),(MC z y8)]⟩ rfl ⟨rfl,rfl,Ae⟩ ?_
         refine Az [.at 2,.at 2] [Qb (z+1),Qb (z+1)] (.tuple #[i6 414,.agg #[(Ac p),Ac k]]) ⟨rfl,rfl,Ae⟩ ?_
         intro w72 hw72
         have hq:CP c p=⟨414,⟨(p:Int),(k:Int)⟩⟩:=(partQ_q hB0 hE0 hg (by omega) (by unfold JH;rw[eQ];exact unl_no (by decide) (by simpa using h69))).trans (by unfold JH;rw[eQ,show win y65.Channel 0 ((c.Aj.xs.length:Nat) - 1)=false from by simpa using h69];rfl)
         exact⟨congrArg (fun t:Am=>Ending.returned (.tuple #[i6 t.e,.agg #[i6 t.Ag.First,i6 t.Ag.Second]])) hq.symm,AB hw72⟩
        refine Au 14 0 [0] [[o0,o0,(a1 3),o0,oF],[o0,o0,(an 2 2)]] [Qb (z+2),BF ((k:Int)<(y8.Ap.xs.length:Int)),Qb (z+1),Qb (z+1)] [(EL z),(4,i6 0)] rfl ⟨rfl,bf,rfl,rfl,Ae⟩ ?_
        refine Az [.at 2,.at 2] [Qb (z+1),Qb (z+1)] (.tuple #[i6 0,.agg #[i6 0,i6 0]]) ⟨rfl,rfl,Ae⟩ ?_
        intro w73 hw73
        have hq:CP c p=⟨0,⟨0,0⟩⟩:=(partQ_f hB0 hE0 (fun a ha=>hg a (by omega))).trans rfl
        exact⟨congrArg (fun t:Am=>Ending.returned (.tuple #[i6 t.e,.agg #[i6 t.Ag.First,i6 t.Ag.Second]])) hq.symm,AB hw73⟩
       refine AZ 5 1 [1] [[(ov (.bool true))],[o0]] [Value.bool (!(Nz y8))=Value.bool true] [(EL z),(76,Ac p)] rfl ⟨by simp[h49],Ae⟩ ?_
       refine Ba 58 #[(Ac p)] (some 77) (.agg #[(Ac p),i6 (-1)]) (fun w74 hw74=>JW w74 (p:Int)) (fun n75 (hn76:n47≤n75) => ?_)
       refine EI 3 0 [] [[o0,(an 2 2)]] [Qb (z+1),Qb (z+1)] [(EL z),(4,i6 412)] ⟨w,n75,[(Ak w),(L6 z c),(Tu z p),(MC z y8)]⟩ rfl ⟨rfl,rfl,Ae⟩ ?_
       refine Az [.at 2,.at 2] [Qb (z+1),Qb (z+1)] (.tuple #[i6 412,.agg #[(Ac p),i6 (-1)]]) ⟨rfl,rfl,Ae⟩ ?_
       intro w77 hw77
       have hq:CP c p=⟨412,⟨(p:Int), -1⟩⟩:=(partQ_e hB0 (by unfold H8;simp only[eP];rw[show(win y8.Entry 0 4095&&Gh y8)=false from by simpa[Nz]using h49];(try simp[AY,Af,AQ]))).trans (by unfold H8;simp only[eP];rw[show(win y8.Entry 0 4095&&Gh y8)=false from by simpa[Nz]using h49];(try simp[AY,Af,AQ]))
       exact⟨congrArg (fun t:Am=>Ending.returned (.tuple #[i6 t.e,.agg #[i6 t.Ag.First,i6 t.Ag.Second]])) hq.symm,AB hw77⟩
      have hd78:=FI h36
      refine AZ 5 1 [1] [[(ov (.bool true)),o0],[o0]] [Value.bool (!(win (y8.Ah.xs.length:Int) 1 8))=Value.bool true] [(EL z),(54,Ac p)] rfl ⟨by simp[h36],Ae⟩ ?_
      refine Ba 58 #[(Ac p)] (some 55) (.agg #[(Ac p),i6 (-1)]) (fun w79 hw79=>JW w79 (p:Int)) (fun n80 (hn81:n34≤n80) => ?_)
      refine EI 3 0 [] [[o0,(an 2 2)]] [Qb (z+1),Qb (z+1)] [(EL z),(4,i6 408)] ⟨w,n80,[(Ak w),(L6 z c),(Tu z p),(MC z y8)]⟩ rfl ⟨rfl,rfl,Ae⟩ ?_
      refine Az [.at 2,.at 2] [Qb (z+1),Qb (z+1)] (.tuple #[i6 408,.agg #[(Ac p),i6 (-1)]]) ⟨rfl,rfl,Ae⟩ ?_
      intro w82 hw82
      have hq:CP c p=⟨408,⟨(p:Int), -1⟩⟩:=(TW (by unfold Gw;simp only[eP];(try simp[AY,Af,AQ,h12,h16,h21,h26,h31,h36]))).trans (by unfold Gw;simp only[eP];(try simp[AY,Af,AQ,h12,h16,h21,h26,h31,h36]))
      exact⟨congrArg (fun t:Am=>Ending.returned (.tuple #[i6 t.e,.agg #[i6 t.Ag.First,i6 t.Ag.Second]])) hq.symm,AB hw82⟩
     have hd83:=FI h31
     refine AZ 5 1 [1] [[(ov (.bool true)),o0,o0],[o0]] [Value.bool (!(win y8.AV 0 16))=Value.bool true] [(EL z),(46,Ac p)] rfl ⟨by simp[h31],Ae⟩ ?_
     refine Ba 58 #[(Ac p)] (some 47) (.agg #[(Ac p),i6 (-1)]) (fun w84 hw84=>JW w84 (p:Int)) (fun n85 (hn86:n29≤n85) => ?_)
     refine EI 3 0 [] [[o0,(an 2 2)]] [Qb (z+1),Qb (z+1)] [(EL z),(4,i6 407)] ⟨w,n85,[(Ak w),(L6 z c),(Tu z p),(MC z y8)]⟩ rfl ⟨rfl,rfl,Ae⟩ ?_
     refine Az [.at 2,.at 2] [Qb (z+1),Qb (z+1)] (.tuple #[i6 407,.agg #[(Ac p),i6 (-1)]]) ⟨rfl,rfl,Ae⟩ ?_
     intro w87 hw87
     have hq:CP c p=⟨407,⟨(p:Int), -1⟩⟩:=(TW (by unfold Gw;simp only[eP];(try simp[AY,Af,AQ,h12,h16,h21,h26,h31]))).trans (by unfold Gw;simp only[eP];(try simp[AY,Af,AQ,h12,h16,h21,h26,h31]))
     exact⟨congrArg (fun t:Am=>Ending.returned (.tuple #[i6 t.e,.agg #[i6 t.Ag.First,i6 t.Ag.Second]])) hq.symm,AB hw87⟩
    have hd88:=FI h26
    refine AZ 5 1 [1] [[(ov (.bool true)),o0,o0,o0],[o0]] [Value.bool (!(win y8.F7 0 16))=Value.bool true] [(EL z),(46,Ac p)] rfl ⟨by simp[h26],Ae⟩ ?_
    refine Ba 58 #[(Ac p)] (some 47) (.agg #[(Ac p),i6 (-1)]) (fun w89 hw89=>JW w89 (p:Int)) (fun n90 (hn91:n24≤n90) => ?_)
    refine EI 3 0 [] [[o0,(an 2 2)]] [Qb (z+1),Qb (z+1)] [(EL z),(4,i6 407)] ⟨w,n90,[(Ak w),(L6 z c),(Tu z p),(MC z y8)]⟩ rfl ⟨rfl,rfl,Ae⟩ ?_
    refine Az [.at 2,.at 2] [Qb (z+1),Qb (z+1)] (.tuple #[i6 407,.agg #[(Ac p),i6 (-1)]]) ⟨rfl,rfl,Ae⟩ ?_
    intro w92 hw92
    have hq:CP c p=⟨407,⟨(p:Int), -1⟩⟩:=(TW (by unfold Gw;simp only[eP];(try simp[AY,Af,AQ,h12,h16,h21,h26]))).trans (by unfold Gw;simp only[eP];(try simp[AY,Af,AQ,h12,h16,h21,h26]))
    exact⟨congrArg (fun t:Am=>Ending.returned (.tuple #[i6 t.e,.agg #[i6 t.Ag.First,i6 t.Ag.Second]])) hq.symm,AB hw92⟩
   have hd93:=FI h21
   refine AZ 5 1 [1] [[(ov (.bool true)),o0,o0],[o0]] [Value.bool (!(win y8.A7 0 15))=Value.bool true] [(EL z),(33,Ac p)] rfl ⟨by simp[h21],Ae⟩ ?_
   refine Ba 58 #[(Ac p)] (some 34) (.agg #[(Ac p),i6 (-1)]) (fun w94 hw94=>JW w94 (p:Int)) (fun n95 (hn96:n19≤n95) => ?_)
   refine EI 3 0 [] [[o0,(an 2 2)]] [Qb (z+1),Qb (z+1)] [(EL z),(4,i6 406)] ⟨w,n95,[(Ak w),(L6 z c),(Tu z p),(MC z y8)]⟩ rfl ⟨rfl,rfl,Ae⟩ ?_
   refine Az [.at 2,.at 2] [Qb (z+1),Qb (z+1)] (.tuple #[i6 406,.agg #[(Ac p),i6 (-1)]]) ⟨rfl,rfl,Ae⟩ ?_
   intro w97 hw97
   have hq:CP c p=⟨406,⟨(p:Int), -1⟩⟩:=(TW (by unfold Gw;simp only[eP];(try simp[AY,Af,AQ,h12,h16,h21]))).trans (by unfold Gw;simp only[eP];(try simp[AY,Af,AQ,h12,h16,h21]))
   exact⟨congrArg (fun t:Am=>Ending.returned (.tuple #[i6 t.e,.agg #[i6 t.Ag.First,i6 t.Ag.Second]])) hq.symm,AB hw97⟩
  have hd98:=FI h16
  refine AZ 5 1 [1] [[(ov (.bool true)),o0,o0,o0],[o0]] [Value.bool (!(win y8.Dx 0 2))=Value.bool true] [(EL z),(33,Ac p)] rfl ⟨by simp[h16],Ae⟩ ?_
  refine Ba 58 #[(Ac p)] (some 34) (.agg #[(Ac p),i6 (-1)]) (fun w99 hw99=>JW w99 (p:Int)) (fun n100 (hn101:n14≤n100) => ?_)
  refine EI 3 0 [] [[o0,(an 2 2)]] [Qb (z+1),Qb (z+1)] [(EL z),(4,i6 406)] ⟨w,n100,[(Ak w),(L6 z c),(Tu z p),(MC z y8)]⟩ rfl ⟨rfl,rfl,Ae⟩ ?_
  refine Az [.at 2,.at 2] [Qb (z+1),Qb (z+1)] (.tuple #[i6 406,.agg #[(Ac p),i6 (-1)]]) ⟨rfl,rfl,Ae⟩ ?_
  intro w102 hw102
  have hq:CP c p=⟨406,⟨(p:Int), -1⟩⟩:=(TW (by unfold Gw;simp only[eP];(try simp[AY,Af,AQ,h12,h16]))).trans (by unfold Gw;simp only[eP];(try simp[AY,Af,AQ,h12,h16]))
  exact⟨congrArg (fun t:Am=>Ending.returned (.tuple #[i6 t.e,.agg #[i6 t.Ag.First,i6 t.Ag.Second]])) hq.symm,AB hw102⟩
 refine AZ 5 1 [1] [[(ov (.bool true)),o0],[o0]] [Value.bool (!(AP c p))=Value.bool true] [(EL z),(20,Ac p)] rfl ⟨by simp[h12],Ae⟩ ?_
 refine Ba 58 #[(Ac p)] (some 21) (.agg #[(Ac p),i6 (-1)]) (fun w103 hw103=>JW w103 (p:Int)) (fun n104 (hn105:n10≤n104) => ?_)
 refine EI 3 0 [] [[o0,(an 2 2)]] [Qb (z+1),Qb (z+1)] [(EL z),(4,i6 405)] ⟨w,n104,[(Ak w),(L6 z c),(Tu z p),(MC z y8)]⟩ rfl ⟨rfl,rfl,Ae⟩ ?_
 refine Az [.at 2,.at 2] [Qb (z+1),Qb (z+1)] (.tuple #[i6 405,.agg #[(Ac p),i6 (-1)]]) ⟨rfl,rfl,Ae⟩ ?_
 intro w106 hw106
 have hq:CP c p=⟨405,⟨(p:Int), -1⟩⟩:=(TW (by unfold Gw;simp only[eP];(try simp[AY,Af,AQ,h12]))).trans (by unfold Gw;simp only[eP];(try simp[AY,Af,AQ,h12]))
 exact⟨congrArg (fun t:Am=>Ending.returned (.tuple #[i6 t.e,.agg #[i6 t.Ag.First,i6 t.Ag.Second]])) hq.symm,AB hw106⟩
end Go.Proofs.YtlccogilgegnfaaDoor.Ad
namespace Go.Proofs.YtlccogilgegnfaaDoor.Ly
open Go Go.Proofs.YtlccogilgegnfaaDoor.Eng Go.Proofs.YtlccogilgegnfaaDoor.Mem
set_option linter.unusedSimpArgs false
set_option linter.unusedVariables false
set_option maxRecDepth 100000
def touchR(t:Nat)(g:CS):Bool:=decide (g.Bl / 16≤(t:Int)∧(t:Int)≤(g.Bl+g.AO - 1) / 16)
def Iz(x:Aq)(t:Nat):Bool:=x.Ah.xs.any (touchR t)
theorem any_yes{α:Type}[Inhabited α]{p:α→Bool}{xs:List α}{k:Nat}(hk:k<xs.length)(h:p (gd xs k)=true):xs.any p=true:=by
 rw[List.any_eq_true];rw[EW hk]at h;exact⟨xs[k],List.getElem_mem hk,h⟩
theorem VM{α:Type}[Inhabited α]{p:α→Bool}{xs:List α}(h:∀ i,i<xs.length→p (gd xs i)=false):xs.any p=false:=by
 rw[List.any_eq_false]
 intro y hy
 obtain⟨i,hi,rfl⟩:=List.getElem_of_mem hy
 have:=h i hi
 rw[EW hi]at this
 simp[this]
theorem touch_tab{x:Aq}(hr:∀ i,i<x.Ah.xs.length→KF (gd x.Ah.xs i)=true)(t:Nat):Iz x t=(Gn x x.Ah.xs.length).contains t:=by
 rw[Bool.eq_iff_iff]
 unfold Iz Gn OJ
 simp only[List.any_eq_true,List.contains_iff_mem,List.mem_flatMap,List.mem_range,List.mem_map,touchR,decide_eq_true_eq]
 constructor
 ·rintro⟨g,hg,h1,h2⟩
  obtain⟨i,hi,rfl⟩:=List.getElem_of_mem hg
  have h3:=hr i hi
  unfold KF at h3
  rw[decide_eq_true_eq]at h3
  rw[EW hi]at h3
  refine⟨i,hi, ?_⟩
  rw[EW hi]
  by_cases hp:x.Ah.xs[i].Bl≤16*(t:Int)
  ·exact⟨(16*(t:Int) - x.Ah.xs[i].Bl).toNat,by omega,by omega⟩
  exact⟨0,by omega,by omega⟩
 rintro⟨i,hi,k,hk,h⟩
 have h3:=hr i hi
 unfold KF at h3
 rw[decide_eq_true_eq]at h3
 refine⟨gd x.Ah.xs i,by rw[EW hi];exact List.getElem_mem hi,by omega,by omega⟩
theorem Zab{c:Ai}{k:Int}{b:Bool}(i:Nat):∀ (n:Nat),i≤n→∃ r,Dn c k b n=Dn c k b i++r
 | 0,h=>⟨[],by rw[Nat.le_zero.1 h];simp⟩
 | n+1,h=>by
  by_cases e:i=n+1
  ·exact⟨[],by rw[e];simp⟩
  obtain⟨r,hr⟩:=Zab (c:=c) (k:=k) (b:=b) i n (by omega)
  exact⟨_,by rw[MK,hr,List.append_assoc]⟩
theorem X3{p:Nat}{x:Aq}{k:Int}{b:Bool}(j:Nat):∀ (n:Nat),j≤n→∃ r,CQ p x k b n=CQ p x k b j++r
 | 0,h=>⟨[],by rw[Nat.le_zero.1 h];simp⟩
 | n+1,h=>by
  by_cases e:j=n+1
  ·exact⟨[],by rw[e];simp⟩
  obtain⟨r,hr⟩:=X3 (p:=p) (x:=x) (k:=k) (b:=b) j n (by omega)
  cases hs:Jh k b (gd x.Ap.xs n)
  ·exact⟨r,by rw[Ls hs,hr]⟩
  exact⟨_,by rw[P8 hs,hr,List.append_assoc]⟩
theorem first_end{c:Ai}{k:Int}{b:Bool}{i j:Nat}(hi:i<c.Aa.xs.length)(hj:j<(gd c.Aa.xs i).Ap.xs.length)(h1:Dn c k b i=[])(h2:CQ i (gd c.Aa.xs i) k b j=[])(h3:Jh k b (gd (gd c.Aa.xs i).Ap.xs j)=true):gd (CB c k b) 0=⟨(i:Int),(j:Int)⟩:=by
 obtain⟨r1,e1⟩:=Zab (c:=c) (k:=k) (b:=b) (i+1) c.Aa.xs.length (by omega)
 obtain⟨r2,e2⟩:=X3 (p:=i) (x:=gd c.Aa.xs i) (k:=k) (b:=b) (j+1) (gd c.Aa.xs i).Ap.xs.length (by omega)
 unfold CB
 rw[e1,MK,h1,e2,P8 h3,h2]
 simp[gd]
theorem no_end{c:Ai}{k:Int}{b:Bool}(h:CB c k b=[]):gd (CB c k b) 0=⟨0,0⟩:=by rw[h];rfl
section
variable (x:Aq)
abbrev Uz:=(10,Ac x.Ah.xs.length)
end
theorem touches_calls(w:World)(x:Aq)(t:Nat)(ht:t<16)(hx:Aq.ok Any w x)(hr:∀ i,i<x.Ah.xs.length→KF (gd x.Ah.xs i)=true):Calls Tryd.prog 42 #[.agg (Aq.arr x),.int .i64 (t:Int)] w fun e w'=>e = .returned (.bool (Iz x t))∧Ce (fun _=>False) w w':=by
 obtain⟨z,hz⟩:∃ z,z=w.heap.size:=⟨_,rfl⟩
 refine Bf (args:=[.agg (Aq.arr x),Ac t]) 40 ⟨w,z,[(Ak w)]⟩ Tryd.func42 rfl (by kernel_rfl) (by kernel_rfl) (Ed hz) ?_
 have hlR:=hx.Ah.1.len
 refine Di [0,1] [(0,.agg (Aq.arr x)),(1,Ac t)] ?_
 refine q_c 10 0 [] [[o0,o0],[o0,(a1 1),o0,o0]] [Qb z] [(1,Ac t),(2,pt z),(Uz x),(11,i6 0)] ⟨w,z+1,[(Ak w),(bk z (Aq.arr x) 35)]⟩ rfl ⟨rfl,Ae⟩ ?_
 refine D8 (fun m a w'=>∃ (n2:Nat) (i:Nat),m=x.Ah.xs.length - i∧z+1≤n2∧(i≤x.Ah.xs.length)∧(∀ q,q<i→touchR t (gd x.Ah.xs q)=false)∧St 40 [(1,Ac t),(2,pt z),(Uz x),(11,Ac i)] [] ⟨w,n2,[(Ak w),(bk z (Aq.arr x) 35)]⟩ a w') (x.Ah.xs.length - 0) ?_ ?_
 ·intro a w' hs;exact⟨(z+1),0,rfl,Nat.le_refl _,Nat.zero_le _,fun q hq=>absurd hq (Nat.not_lt_zero q),hs⟩
 rintro m a w' ⟨n2,i,rfl,hn1,hki,hq0,hs⟩
 refine(?_:G Tryd.prog 40 [(1,Ac t),(2,pt z),(Uz x),(11,Ac i)] [] ⟨w,n2,[(Ak w),(bk z (Aq.arr x) 35)]⟩ _ _ _) a w' hs
 clear hs a w'
 refine CW ?_
 by_cases h3:(i:Int)<(x.Ah.xs.length:Int)
 ·refine Au 14 0 [1] [[oT],[o0,o0]] [BT ((i:Int)<(x.Ah.xs.length:Int))] [(1,Ac t),(2,pt z),(Uz x),(11,Ac i),(5,Ac i)] rfl ⟨bt,Ae⟩ ?_
  obtain⟨b4,o5,ha6,hF8,hc7⟩:=(hx.Ah).1.all (show 0<x.Ah.xs.length by omega)
  replace ha6:x.Ah.a=some ⟨b4,o5,none⟩:=ha6
  have hc9:=hc7 i (show i<x.Ah.xs.length by omega)
  have he10:=(hx.Ah).2 i (show i<x.Ah.xs.length by omega)
  obtain⟨y11,hy11⟩:∃ y_,y_=gd x.Ah.xs i:=⟨_,rfl⟩
  rw[←hy11]at he10 hc9
  have hrg:=hr i (by omega);rw[←hy11]at hrg;unfold KF at hrg;rw[decide_eq_true_eq]at hrg
  refine Au 8 0 [] [[o0,(EM 1 b4 o5 x.Ah),o0,(oi i),o0,(oa [.via 0 (i6 y11.Bl)]),o0],[o0,o0,(EM 1 b4 o5 x.Ah),o0,(oi i),o0,(oa [.via 0 (i6 y11.AO)]),(ov (i6 (y11.Bl+y11.AO))),(ov (i6 ((y11.Bl+y11.AO) - 1))),o0]] [Qb z,Ej b4 o5 x.Ah,Dc i,i<x.Ah.xs.length,BM,Old w b4 (o5+i*4) (i6 y11.Bl),Qb z,Ej b4 o5 x.Ah,Dc i,i<x.Ah.xs.length,BM,Old w b4 (o5+i*4+1) (i6 y11.AO),Wr ((y11.Bl:Int)+y11.AO) (y11.Bl+y11.AO),Wr ((y11.Bl+y11.AO:Int) - 1) ((y11.Bl+y11.AO) - 1)] [(1,Ac t),(2,pt z),(Uz x),(11,Ac i),(6,i6 y11.Bl),(7,i6 ((y11.Bl+y11.AO) - 1))] rfl ⟨rfl,Eg ha6,rfl,(by omega),rfl,Aw (hc9 0 _ rfl),rfl,Eg ha6,rfl,(by omega),rfl,Aw (hc9 1 _ rfl),BP,BP,Ae⟩ ?_
  by_cases h12:(t:Int)<y11.Bl / 16
  ·refine Au 9 0 [0] [[o0,(ov (i6 (y11.Bl / 16))),o0,oF,o0,o0],[(ov (i6 ((i+1:Nat):Int))),o0]] [Wr (Int.tdiv (y11.Bl) 16) (y11.Bl / 16),BF ((y11.Bl / 16:Int)≤(t:Int)),Wr ((i:Int)+1) (((i+1:Nat):Int))] [(1,Ac t),(2,pt z),(Uz x),(11,i6 ((i+1:Nat):Int))] rfl ⟨congrArg (Value.int .i64) (Me (by omega) (by omega) (by omega)),bf,BP,Ae⟩ ?_
   refine BR (fun a w' hs=>⟨x.Ah.xs.length - (i+1),by omega,n2,(i+1),rfl,by omega,by omega,upto hq0 (by rw[←hy11];exact decide_eq_false (by omega)),hs⟩)
  by_cases h13:(((y11.Bl+y11.AO) - 1) / 16:Int)<(t:Int)
  ·refine Au 9 0 [0] [[o0,(ov (i6 (y11.Bl / 16))),o0,oT,o0,o0,o0,(ov (i6 (((y11.Bl+y11.AO) - 1) / 16))),oF,o0],[(ov (i6 ((i+1:Nat):Int))),o0]] [Wr (Int.tdiv (y11.Bl) 16) (y11.Bl / 16),BT ((y11.Bl / 16:Int)≤(t:Int)),Wr (Int.tdiv ((y11.Bl+y11.AO) - 1) 16) (((y11.Bl+y11.AO) - 1) / 16),BF ((t:Int)≤(((y11.Bl+y11.AO) - 1) / 16)),Wr ((i:Int)+1) (((i+1:Nat):Int))] [(1,Ac t),(2,pt z),(Uz x),(11,i6 ((i+1:Nat):Int))] rfl ⟨congrArg (Value.int .i64) (Me (by omega) (by omega) (by omega)),bt,congrArg (Value.int .i64) (Me (by omega) (by omega) (by omega)),bf,BP,Ae⟩ ?_
   refine BR (fun a w' hs=>⟨x.Ah.xs.length - (i+1),by omega,n2,(i+1),rfl,by omega,by omega,upto hq0 (by rw[←hy11];exact decide_eq_false (by omega)),hs⟩)
  refine Au 9 0 [1] [[o0,(ov (i6 (y11.Bl / 16))),o0,oT,o0,o0,o0,(ov (i6 (((y11.Bl+y11.AO) - 1) / 16))),oT,o0],[o0]] [Wr (Int.tdiv (y11.Bl) 16) (y11.Bl / 16),BT ((y11.Bl / 16:Int)≤(t:Int)),Wr (Int.tdiv ((y11.Bl+y11.AO) - 1) 16) (((y11.Bl+y11.AO) - 1) / 16),BT ((t:Int)≤(((y11.Bl+y11.AO) - 1) / 16))] [(4,.bool true)] rfl ⟨congrArg (Value.int .i64) (Me (by omega) (by omega) (by omega)),bt,congrArg (Value.int .i64) (Me (by omega) (by omega) (by omega)),bt,Ae⟩ ?_
  refine Az [] [] (.bool true) Ae ?_
  intro w14 hw14
  refine⟨congrArg (fun b=>Ending.returned (Value.bool b)) (Eq.symm (?_:Iz x t=true)),AB hw14⟩
  exact any_yes (k:=i) (by omega) (by rw[←hy11];exact decide_eq_true ⟨by omega,by omega⟩)
 refine Au 15 0 [0] [[oF],[o0]] [BF ((i:Int)<(x.Ah.xs.length:Int))] [(4,.bool false)] rfl ⟨bf,Ae⟩ ?_
 refine Az [] [] (.bool false) Ae ?_
 intro w15 hw15
 refine⟨congrArg (fun b=>Ending.returned (Value.bool b)) (Eq.symm (?_:Iz x t=false)),AB hw15⟩
 exact VM (fun q hq=>hq0 q (by omega))
section
variable (z:Nat)(c:Ai)(y11:Aq)
abbrev Xv:=bk z (Ai.arr c) 26
abbrev OO:=(10,Ac c.Aa.xs.length)
abbrev UM:=(20,Ac y11.Ap.xs.length)
end
theorem source_calls(w:World)(c:Ai)(ch:Int)(hc:Ai.ok Any w c):Calls Tryd.prog 26 #[.agg (Ai.arr c),.int .i64 ch] w fun e w'=>e = .returned (.tuple #[.int .i64 (gd (CB c ch true) 0).partition,.int .i64 (gd (CB c ch true) 0).port])∧Ce (fun _=>False) w w':=by
 obtain⟨z,hz⟩:∃ z,z=w.heap.size:=⟨_,rfl⟩
 refine Bf (args:=[.agg (Ai.arr c),i6 ch]) 52 ⟨w,z,[(Ak w)]⟩ Tryd.func26 rfl (by kernel_rfl) (by kernel_rfl) (Ed hz) ?_
 have hlP:=hc.Aa.1.len
 refine Di [0,1] [(0,.agg (Ai.arr c)),(1,i6 ch)] ?_
 refine q_c 10 0 [] [[o0,o0,o0],[o0,(a1 1),o0,o0]] [Qb z] [(1,i6 ch),(2,pt z),(OO c),(11,i6 0)] ⟨w,z+1,[(Ak w),(Xv z c)]⟩ rfl ⟨rfl,Ae⟩ ?_
 refine D8 (fun m a w'=>∃ (n2:Nat) (i:Nat),m=c.Aa.xs.length - i∧z+1≤n2∧(i≤c.Aa.xs.length)∧(Dn c ch true i=[])∧St 52 [(1,i6 ch),(2,pt z),(OO c),(11,Ac i)] [] ⟨w,n2,[(Ak w),(Xv z c)]⟩ a w') (c.Aa.xs.length - 0) ?_ ?_
 ·intro a w' hs;exact⟨(z+1),0,rfl,Nat.le_refl _,Nat.zero_le _,rfl,hs⟩
 rintro m a w' ⟨n2,i,rfl,hn1,hki,heu,hs⟩
 refine(?_:G Tryd.prog 52 [(1,i6 ch),(2,pt z),(OO c),(11,Ac i)] [] ⟨w,n2,[(Ak w),(Xv z c)]⟩ _ _ _) a w' hs
 clear hs a w'
 refine CW ?_
 by_cases h3:(i:Int)<(c.Aa.xs.length:Int)
 ·refine Au 14 0 [1] [[oT],[o0,o0]] [BT ((i:Int)<(c.Aa.xs.length:Int))] [(1,i6 ch),(2,pt z),(OO c),(11,Ac i),(6,Ac i)] rfl ⟨bt,Ae⟩ ?_
  obtain⟨b4,o5,ha6,hF8,hc7⟩:=(hc.Aa).1.all (show 0<c.Aa.xs.length by omega)
  replace ha6:c.Aa.a=some ⟨b4,o5,none⟩:=ha6
  have hc9:=hc7 i (show i<c.Aa.xs.length by omega)
  have he10:=(hc.Aa).2 i (show i<c.Aa.xs.length by omega)
  obtain⟨y11,hy11⟩:∃ y_,y_=gd c.Aa.xs i:=⟨_,rfl⟩
  rw[←hy11]at he10 hc9
  refine Au 4 0 [] [[o0,(EM 1 b4 o5 c.Aa),o0,(oi i),o0,(oa [.via 0 (.slice y11.Ap.a y11.Ap.xs.length y11.Ap.cap)]),o0,o0]] [Qb z,Ej b4 o5 c.Aa,Dc i,i<c.Aa.xs.length,BM,Old w b4 (o5+i*8+7) (.slice y11.Ap.a y11.Ap.xs.length y11.Ap.cap)] [(1,i6 ch),(2,pt z),(6,Ac i),(OO c),(11,Ac i),(UM y11),(21,i6 0)] rfl ⟨rfl,Eg ha6,rfl,(by omega),rfl,Aw (hc9 7 _ rfl),Ae⟩ ?_
  refine D8 (fun m a w'=>∃ (n13:Nat) (j:Nat),m=y11.Ap.xs.length - j∧n2≤n13∧(j≤y11.Ap.xs.length)∧(CQ i y11 ch true j=[])∧St 52 [(1,i6 ch),(2,pt z),(6,Ac i),(OO c),(11,Ac i),(UM y11),(21,Ac j)] [] ⟨w,n13,[(Ak w),(Xv z c)]⟩ a w') (y11.Ap.xs.length - 0) ?_ ?_
  ·intro a w' hs;exact⟨n2,0,rfl,Nat.le_refl _,Nat.zero_le _,rfl,hs⟩
  rintro m a w' ⟨n13,j,rfl,hn12,hkj,hpe,hs⟩
  refine(?_:G Tryd.prog 52 [(1,i6 ch),(2,pt z),(6,Ac i),(OO c),(11,Ac i),(UM y11),(21,Ac j)] [] ⟨w,n13,[(Ak w),(Xv z c)]⟩ _ _ _) a w' hs
  clear hs a w'
  have hlp:=he10.Ap.1.len
  refine CW ?_
  by_cases h14:(j:Int)<(y11.Ap.xs.length:Int)
  ·refine Au 14 0 [1] [[oT],[o0,o0]] [BT ((j:Int)<(y11.Ap.xs.length:Int))] [(1,i6 ch),(2,pt z),(6,Ac i),(OO c),(11,Ac i),(UM y11),(21,Ac j),(7,Ac j)] rfl ⟨bt,Ae⟩ ?_
   obtain⟨b15,o16,ha17,hF19,hc18⟩:=(he10.Ap).1.all (show 0<y11.Ap.xs.length by omega)
   replace ha17:y11.Ap.a=some ⟨b15,o16,none⟩:=ha17
   have hc20:=hc18 j (show j<y11.Ap.xs.length by omega)
   have he21:=(he10.Ap).2 j (show j<y11.Ap.xs.length by omega)
   obtain⟨y22,hy22⟩:∃ y_,y_=gd y11.Ap.xs j:=⟨_,rfl⟩
   rw[←hy22]at he21 hc20
   by_cases h23:(y22.Channel:Int)=ch
   ·refine Au 3 0 [] [[o0,(EM 1 b4 o5 c.Aa),o0,(oi i),o0,⟨.auto [.via 0 (.slice y11.Ap.a y11.Ap.xs.length y11.Ap.cap)],some (.slice (some ⟨b15,o16,none⟩) y11.Ap.xs.length y11.Ap.cap)⟩,o0,(oi j),o0,(oa [.via 0 (i6 y22.Channel)]),o0,oT,o0,o0,(EM 1 b4 o5 c.Aa),o0,(oi i),o0,⟨.auto [.via 0 (.slice y11.Ap.a y11.Ap.xs.length y11.Ap.cap)],some (.slice (some ⟨b15,o16,none⟩) y11.Ap.xs.length y11.Ap.cap)⟩,o0,(oi j),o0,(oa [.via 0 (.bool y22.Source)]),o0]] [Qb z,Ej b4 o5 c.Aa,Dc i,i<c.Aa.xs.length,BM,Old w b4 (o5+i*8+7) (.slice y11.Ap.a y11.Ap.xs.length y11.Ap.cap),Ej b15 o16 y11.Ap,Dc j,j<y11.Ap.xs.length,BM,Old w b15 (o16+j*2) (i6 y22.Channel),ET y22.Channel ch,Qb z,Ej b4 o5 c.Aa,Dc i,i<c.Aa.xs.length,BM,Old w b4 (o5+i*8+7) (.slice y11.Ap.a y11.Ap.xs.length y11.Ap.cap),Ej b15 o16 y11.Ap,Dc j,j<y11.Ap.xs.length,BM,Old w b15 (o16+j*2+1) (.bool y22.Source)] [(1,i6 ch),(2,pt z),(6,Ac i),(OO c),(11,Ac i),(UM y11),(21,Ac j),(7,Ac j),(47,.bool y22.Source)] rfl ⟨rfl,Eg ha6,rfl,(by omega),rfl,Aw (hc9 7 _ rfl),Eg ha17,rfl,(by omega),rfl,Aw (hc20 0 _ rfl),et,rfl,Eg ha6,rfl,(by omega),rfl,Aw (hc9 7 _ rfl),Eg ha17,rfl,(by omega),rfl,Aw (hc20 1 _ rfl),Ae⟩ ?_
    by_cases h24:y22.Source=true
    ·refine Au 6 0 [3] [[o0,o0,o0,o0]] [Value.bool y22.Source=Value.bool true] [(4,Ac i),(5,Ac j)] rfl ⟨(congrArg Value.bool h24),Ae⟩ ?_
     refine Az [] [] (.tuple #[(Ac i),Ac j]) Ae ?_
     intro w25 hw25
     have hg:=first_end (i:=i) (j:=j) (by omega) (by rw[←hy11];omega) heu (by rw[←hy11];exact hpe) (by rw[←hy11,←hy22];exact YE (by omega) (by revert h24;cases y22.Source <;> simp))
     refine⟨?_,AB hw25⟩
     rw[hg]
    refine Au 6 0 [2] [[(ov (i6 ((j+1:Nat):Int))),o0]] [Value.bool y22.Source=Value.bool false,Wr ((j:Int)+1) (((j+1:Nat):Int))] [(1,i6 ch),(2,pt z),(6,Ac i),(OO c),(11,Ac i),(UM y11),(21,i6 ((j+1:Nat):Int))] rfl ⟨(congrArg Value.bool (Bool.eq_false_iff.2 h24)),BP,Ae⟩ ?_
    refine BR (fun a w' hs=>⟨y11.Ap.xs.length - (j+1),by omega,n13,(j+1),rfl,by omega,by omega,by rw[Ls (by rw[←hy22];exact VQ (by revert h24;cases y22.Source <;> simp))];exact hpe,hs⟩)
   refine Au 9 0 [0] [[o0,(EM 1 b4 o5 c.Aa),o0,(oi i),o0,⟨.auto [.via 0 (.slice y11.Ap.a y11.Ap.xs.length y11.Ap.cap)],some (.slice (some ⟨b15,o16,none⟩) y11.Ap.xs.length y11.Ap.cap)⟩,o0,(oi j),o0,(oa [.via 0 (i6 y22.Channel)]),o0,oF,o0,o0],[(ov (i6 ((j+1:Nat):Int))),o0]] [Qb z,Ej b4 o5 c.Aa,Dc i,i<c.Aa.xs.length,BM,Old w b4 (o5+i*8+7) (.slice y11.Ap.a y11.Ap.xs.length y11.Ap.cap),Ej b15 o16 y11.Ap,Dc j,j<y11.Ap.xs.length,BM,Old w b15 (o16+j*2) (i6 y22.Channel),EF y22.Channel ch,Wr ((j:Int)+1) (((j+1:Nat):Int))] [(1,i6 ch),(2,pt z),(6,Ac i),(OO c),(11,Ac i),(UM y11),(21,i6 ((j+1:Nat):Int))] rfl ⟨rfl,Eg ha6,rfl,(by omega),rfl,Aw (hc9 7 _ rfl),Eg ha17,rfl,(by omega),rfl,Aw (hc20 0 _ rfl),ef,BP,Ae⟩ ?_
   refine BR (fun a w' hs=>⟨y11.Ap.xs.length - (j+1),by omega,n13,(j+1),rfl,by omega,by omega,by rw[Ls (by rw[←hy22];exact Xq (by omega))];exact hpe,hs⟩)
  refine Au 13 0 [0] [[oF],[(ov (i6 ((i+1:Nat):Int))),o0]] [BF ((j:Int)<(y11.Ap.xs.length:Int)),Wr ((i:Int)+1) (((i+1:Nat):Int))] [(1,i6 ch),(2,pt z),(OO c),(11,i6 ((i+1:Nat):Int))] rfl ⟨bf,BP,Ae⟩ ?_
  refine BR (fun a w' hs=>⟨c.Aa.xs.length - (i+1),by omega,n13,(i+1),rfl,by omega,by omega,by rw[MK,heu,←hy11,show y11.Ap.xs.length=j by omega];exact hpe,hs⟩)
 refine Au 15 0 [0] [[oF],[o0,o0]] [BF ((i:Int)<(c.Aa.xs.length:Int))] [(4,i6 0),(5,i6 0)] rfl ⟨bf,Ae⟩ ?_
 refine Az [] [] (.tuple #[i6 0,i6 0]) Ae ?_
 intro w26 hw26
 have e0:i=c.Aa.xs.length:=by omega
 subst e0
 have hg:=no_end heu
 refine⟨?_,AB hw26⟩
 rw[hg]
end Go.Proofs.YtlccogilgegnfaaDoor.Ly
