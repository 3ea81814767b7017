/- Packed: Vd, Ba, Bb, Lm, Ln, Lo, Lp, Lq. No conditions. -/
import Derived.Test.YtjdmhijaanmccaaDoorPm4
set_option maxHeartbeats 4000000
namespace Go.Proofs.YtjdmhijaanmccaaDoor.Dv
open Go Go.Proofs.YtjdmhijaanmccaaDoor.Eng Go.Proofs.YtjdmhijaanmccaaDoor.Mem Go.Proofs.YtjdmhijaanmccaaDoor.Ly Go.Proofs.YtjdmhijaanmccaaDoor.Ad
set_option linter.unusedSimpArgs false
set_option linter.unusedVariables false
set_option maxRecDepth 100000
section
variable {nP nW:Nat}{fr:Int}{O A W:List Int}{p:Int}
theorem dv_set(h:Z8 nP nW fr O A W){a:Nat}{v:Int}(hv:0≤v∧v<4294967296):Z8 nP nW fr O A (W.set a v) :=
 ⟨h.ol,h.al,by rw[List.length_set];exact h.wl,h.pn,h.wn,h.fr,h.aI,h.oI,fun q hq=>by
  have hl:=h.wl
  by_cases e:q=a
  ·subst e;rw[NM (by omega)];exact hv
  rw[Wv (Ne.symm e) (by omega)];exact h.wI q hq⟩
theorem out_ge(h:Z8 nP nW fr O A W)(h1:0≤p)(h2:p<(nP:Int))(hg:gd O p.toNat≤gd W (gd A p.toNat).toNat):RV O A W p=(5,0,W):=by
 have ha:=h.al
 unfold RV;rw[if_pos (show 0≤p∧p<(A.length:Int)from⟨h1,by omega⟩),if_pos hg]
theorem out_lt(h:Z8 nP nW fr O A W)(h1:0≤p)(h2:p<(nP:Int))(hg:gd W (gd A p.toNat).toNat<gd O p.toNat):RV O A W p=(0,0,W.set (gd A p.toNat).toNat (gd W (gd A p.toNat).toNat+1)):=by
 have ha:=h.al
 unfold RV;rw[if_pos (show 0≤p∧p<(A.length:Int)from⟨h1,by omega⟩),if_neg (by omega)]
end
theorem gd_rep{n q:Nat}(h:q<n):gd (List.replicate n (0:Int)) q=0:=by rw[Gv (by simpa using h)];simp
theorem memS_new{n mq nW cW m:Nat}{aW:Option Addr}{W:List Int}{w0 w:World}(h:Sat ⟨w0,m,memS n mq aW nW cW W⟩ w)(hq:n≤mq):∀ c∈memS n mq aW nW cW W,∀ b,c.F b→n≤b:=by
 intro x hx b hb
 have hh:=h.all x hx
 simp only[memS,List.mem_cons,List.not_mem_nil,or_false]at hx
 rcases hx with rfl | rfl
 ·have hb':b=mq:=hb
  omega
 exact row_new hh b hb
theorem all1{p:Nat→Prop}(h:p 0):∀ q,q<1→p q:=fun q hq=>by rw[show q=0 by omega];exact h
theorem VQ:Z8 1 256 16 [1] [153] (List.replicate 256 0):=⟨rfl,rfl,List.length_replicate,by decide,by decide,by decide,all1 (by decide),all1 (by decide),fun q hq=>by rw[gd_rep hq];decide⟩
theorem out_small1:RV [1] [153] (List.replicate 256 0) 0=(0,0,(List.replicate 256 0).set 153 1):=by
 rw[out_lt VQ (by decide) (by decide) (of_decide_eq_true (by kernel_rfl))];kernel_rfl
theorem out_small2:RV [1] [153] ((List.replicate 256 0).set 153 1) 0=(5,0,(List.replicate 256 0).set 153 1):=out_ge (dv_set VQ (by decide)) (by decide) (by decide) (of_decide_eq_true (by kernel_rfl))
section
variable (w8:World)(z:Nat)(ax10:Option Addr)(cp11:Nat)(ax22:Option Addr)(y21:Aq)(cp23 n24 n29:Nat)(lay9:G9)(n12:Nat)(w6:World)(W5:JK)(b41 cp28:Nat)(ax37:Option Addr)(cp38:Nat)(ax27:Option Addr)(w:World)(mq36:Nat)
abbrev MN:=bk (w8.heap.size+3) #[.string (⟨#[97]⟩),i6 0,i6 0,i6 0,i6 1,i6 1,.slice (some ⟨z+5,0,none⟩) 1 1,.slice none 0 0] 52
abbrev QU:=bk (w8.heap.size+2) #[i6 16,.slice ax10 (([]++[1]).length) cp11,.slice ax22 (([]++[y21.State+4]).length) cp23,.map (some (w8.heap.size+1))] 68
abbrev JS:=bk (z+1) #[i6 16,i6 400,i6 8,i6 4,.slice (some ⟨z+3,0,none⟩) 1 1,.slice (some ⟨z+6,0,none⟩) 1 1,.slice none 0 0] 26
abbrev KO:=bk (z+9) #[i6 16,i6 400,i6 8,i6 4,.slice (some ⟨z+3,0,none⟩) 1 1,.slice (some ⟨z+6,0,none⟩) 1 1,.slice none 0 0] 26
abbrev Ko:=bk z #[i6 16,i6 400,i6 8,i6 4,.slice (some ⟨z+3,0,none⟩) 1 1,.slice (some ⟨z+6,0,none⟩) 1 1,.slice none 0 0] 26
abbrev JU:=bk (z+4) #[.string (⟨#[97]⟩),i6 0,i6 0,i6 0,i6 1,i6 1,.slice (some ⟨z+5,0,none⟩) 1 1,.slice none 0 0] 52
abbrev JM:=bk (z+6) #[.string (⟨#[97]⟩),i6 0,i6 0,i6 0,i6 1,i6 1,.slice (some ⟨z+5,0,none⟩) 1 1,.slice none 0 0] 52
abbrev q9l9_7:=bk (w8.heap.size+2) #[i6 16,.slice ax10 (([]++[1]).length) cp11,.slice none 0 0,.map (some (w8.heap.size+1))] 68
abbrev YH:=bk (w8.heap.size+2) #[i6 16,.slice none 0 0,.slice none 0 0,.map (some (w8.heap.size+1))] 68
abbrev Kz:=bk (z+8) #[i6 0,i6 3,.slice (some ⟨z+7,0,none⟩) 1 1] 32
abbrev Qp:=bk n24 #[i6 0,i6 3,.slice (some ⟨z+7,0,none⟩) 1 1] 32
abbrev XO:=bk n29 #[i6 0,i6 3,.slice (some ⟨z+7,0,none⟩) 1 1] 32
abbrev Jh:=bk (z+5) #[i6 0,i6 1,i6 2,i6 7] 103
abbrev Jc:=bk (z+2) #[i6 0,i6 300,i6 100] 101
abbrev Jd:=bk (z+3) #[.slice (some ⟨z+2,0,none⟩) 1 1] 65
abbrev QI:=bk (n24+1) #[i6 0,i6 3] 72
abbrev Mc:=bk (w8.heap.size+4) #[i6 1] 3
abbrev KD:Ch:= .blk w8.heap.size (.cells (G9.arr lay9) 60 (0,0)) true
abbrev OO:=bk n12 #[i6 (y21.State+4)] 3
abbrev Kq:Ch:= .blk w6.heap.size (.cells (JK.arr W5) 38 (0,0)) true
abbrev Jo:=bk (z+7) #[.int .u32 77] 54
abbrev PL:=Cm z 3 1 (fun x:Int=>[i6 x]) (.slice ax22 (([]++[y21.State+4]).length) cp23) ([]++[y21.State+4])
abbrev ZZ:=Cm z 54 1 (fun x:Int=>[Value.int .u32 x]) (.slice (some ⟨b41,0,none⟩) 1 cp28) (([]:List Int)++[77])
abbrev Zk:=Cm (n29+1) 54 1 (fun x:Int=>[Value.int .u32 x]) (.slice ax37 256 cp38) (List.replicate 256 0)
abbrev Oa:=Cm z 3 1 (fun x:Int=>[i6 x]) (.slice ax10 (([]++[1]).length) cp11) ([]++[1])
abbrev ZU:=Cm z 54 1 (fun x:Int=>[Value.int .u32 x]) (.slice ax27 1 cp28) (([]:List Int)++[77])
abbrev Tv:=Cm z 3 1 (fun x:Int=>[i6 x]) (.slice none 0 0) ([])
abbrev Ht:=(10,pt (w8.heap.size+2))
abbrev L9:=(8,pt w8.heap.size)
abbrev TZ:Dk:=(108,.slice (some ⟨z+6,0,none⟩) 1 1)
abbrev TI:Dk:=(124,.slice (some ⟨z+7,0,none⟩) 1 1)
abbrev Tz:Dk:=(127,.slice (some ⟨z+6,0,none⟩) 1 1)
abbrev LD:Dk:=(43,.slice (some ⟨z+6,0,none⟩) 1 1)
abbrev OY:Dk:=(78,.slice (some ⟨z+8,0,none⟩) 1 1)
abbrev Vu:=(15,pt (n24+1))
abbrev Hw:Dk:=(1,.slice (some ⟨z+8,0,none⟩) 1 1)
abbrev TY:Dk:=(107,.pointer (some ⟨z+9,5,none⟩))
abbrev Ti:Dk:=(126,.pointer (some ⟨z+9,5,none⟩))
abbrev TV:=(130,pt (z+6))
abbrev Ua:Dk:=(131,.pointer (some ⟨z+6,4,none⟩))
abbrev Hq:=(2,pt (z+9))
abbrev TG:=(100,pt n24)
abbrev TC:=(105,pt n24)
abbrev TQ:Dk:=(113,.pointer (some ⟨n24,1,none⟩))
abbrev TN:Dk:=(118,.pointer (some ⟨n24,1,none⟩))
abbrev Tc:Dk:=(123,.pointer (some ⟨n24,2,none⟩))
abbrev TF:=(128,pt n24)
abbrev ZN:=[(Ak w),(Ko z),(JS z),(Jc z),(Jd z),(JU z),(Jh z),(JM z),(Jo z),(Kz z),(KO z),(Kq w6 W5),(mid (w6.heap.size+1) w8),(KD w8 lay9),(Ch.blk (w8.heap.size+1) (.map #[{ key:= .agg #[i6 0,i6 3],val:= .slice (some ⟨b41,0,none⟩) 1 cp28,born:=0 }] 1) true),(QU w8 ax10 cp11 ax22 y21 cp23),(Oa z ax10 cp11),(PL z ax22 y21 cp23),(MN w8 z),(Mc w8),(OO y21 n12),(Qp z n24),(QI n24),(ZZ z b41 cp28),(XO z n29),(bk mq36 #[.slice ax37 256 cp38] 81),(Zk n29 ax37 cp38)]
abbrev q9l9_48:=[(Ak w),(Ko z),(JS z),(Jc z),(Jd z),(JU z),(Jh z),(JM z),(Jo z),(Kz z),(KO z),(Kq w6 W5),(mid (w6.heap.size+1) w8),(KD w8 lay9),(Ch.blk (w8.heap.size+1) (.map #[{ key:= .agg #[i6 0,i6 3],val:= .slice ax27 1 cp28,born:=0 }] 1) true),(QU w8 ax10 cp11 ax22 y21 cp23),(Oa z ax10 cp11),(PL z ax22 y21 cp23),(MN w8 z),(Mc w8),(OO y21 n12),(Qp z n24),(QI n24),(ZU z cp28 ax27)]
abbrev VA:=[(Ak w),(Ko z),(JS z),(Jc z),(Jd z),(JU z),(Jh z),(JM z),(Jo z),(Kz z),(KO z),(Kq w6 W5),(mid (w6.heap.size+1) w8),(KD w8 lay9),(Ch.blk (w8.heap.size+1) (.map #[] 0) true),(QU w8 ax10 cp11 ax22 y21 cp23),(Oa z ax10 cp11),(PL z ax22 y21 cp23),(MN w8 z),(Mc w8),(OO y21 n12),(Qp z n24),(QI n24)]
abbrev q9l9_50:=[(Ak w),(Ko z),(JS z),(Jc z),(Jd z),(JU z),(Jh z),(JM z),(Jo z),(Kz z),(KO z),(Kq w6 W5),(mid (w6.heap.size+1) w8),(KD w8 lay9),(Ch.blk (w8.heap.size+1) (.map #[] 0) true),(QU w8 ax10 cp11 ax22 y21 cp23),(Oa z ax10 cp11),(PL z ax22 y21 cp23),(MN w8 z),(Mc w8),(OO y21 n12)]
abbrev q9l9_51:=[(Ak w),(Ko z),(JS z),(Jc z),(Jd z),(JU z),(Jh z),(JM z),(Jo z),(Kz z),(KO z),(Kq w6 W5),(mid (w6.heap.size+1) w8),(KD w8 lay9),(Ch.blk (w8.heap.size+1) (.map #[] 0) true),(q9l9_7 w8 ax10 cp11),(Oa z ax10 cp11),(Tv z),(MN w8 z),(Mc w8)]
abbrev q9l9_52:=[(Ak w),(Ko z),(JS z),(Jc z),(Jd z),(JU z),(Jh z),(JM z),(Jo z),(Kz z)]
end
theorem OL(w:World)(hL:Jm w):Calls Tryd.prog 7 #[] w fun e w'=>e = .returned (.bool true)∧CE (fun _=>False) w w':=by
 obtain⟨z,hz⟩:∃ z,z=w.heap.size:=⟨_,rfl⟩
 refine Cb (args:=[]) 91 ⟨w,z,[(Ak w)]⟩ Tryd.func7 rfl (by kernel_rfl) (by kernel_rfl) (Em hz) ?_
 refine DI [] [] ?_
 refine Au 6 0 [] [[o0]] [] [] rfl Ae ?_
 refine l_call [] [] 15 #[] (some 14) Ae ?_
 intro w1 hw1
 refine Cb (args:=[]) 16 ⟨w,z,[(Ak w)]⟩ Tryd.func15 rfl (by kernel_rfl) (by kernel_rfl) hw1 ?_
 refine q_c 29 0 [] [[o0],[o0,o0,(an 7 2)],[o0,o0,o0,o0,(a1 2)],[o0,o0,(an 8 5)],[o0,o0,o0,(a1 5)],[(an 8 5),o0,o0,(a1 2)],[(an 7 2),(an 7 1)]] [Qb (z+1),Qb (z+1),Qb (z+1),Qb (z+1),Qb (z+1),Qb (z+1),Qb (z+1),Qb (z+1),Qb (z+4),Qb (z+4),Qb (z+4),Qb (z+4),Qb (z+4),Qb (z+4),Qb (z+4),Qb (z+4),Qb (z+4),Qb (z+4),Qb (z+4),Qb (z+4),Qb (z+4),Qb (z+4),Qb (z+4),Qb (z+4),Qb (z+4),Qb (z+1),Qb (z+1),Qb (z+1),Qb (z+1),Qb (z+1),Qb (z+1),Qb (z+1),Qb (z+1),Qb z,Qb z,Qb z,Qb z,Qb z,Qb z,Qb z] [(0,pt z)] ⟨w,z+7,[(Ak w),(Ko z),(JS z),(Jc z),(Jd z),(JU z),(Jh z),(JM z)]⟩ rfl ⟨rfl,rfl,rfl,rfl,rfl,rfl,rfl,rfl,rfl,rfl,rfl,rfl,rfl,rfl,rfl,rfl,rfl,rfl,rfl,rfl,rfl,rfl,rfl,rfl,rfl,rfl,rfl,rfl,rfl,rfl,rfl,rfl,rfl,rfl,rfl,rfl,rfl,rfl,rfl,rfl,Ae⟩ ?_
 refine Az [.at 1,.at 1,.at 1,.at 1,.at 1,.at 1,.at 1] [Qb z,Qb z,Qb z,Qb z,Qb z,Qb z,Qb z] (.agg #[i6 16,i6 400,i6 8,i6 4,.slice (some ⟨z+3,0,none⟩) 1 1,.slice (some ⟨z+6,0,none⟩) 1 1,.slice none 0 0]) ⟨rfl,rfl,rfl,rfl,rfl,rfl,rfl,Ae⟩ ?_
 intro w2 hw2
 refine⟨_,_,rfl,hw2, ?_⟩
 refine F8 0 3 [] [[o0,o0,o0]] [] [(14,.agg #[i6 16,i6 400,i6 8,i6 4,.slice (some ⟨z+3,0,none⟩) 1 1,.slice (some ⟨z+6,0,none⟩) 1 1,.slice none 0 0]),(17,.slice (some ⟨z+8,0,none⟩) 1 1)] ⟨w,z+9,(q9l9_52 z w)⟩ rfl Ae ?_
 refine l_call [] [] 8 #[.agg #[i6 16,i6 400,i6 8,i6 4,.slice (some ⟨z+3,0,none⟩) 1 1,.slice (some ⟨z+6,0,none⟩) 1 1,.slice none 0 0],.slice (some ⟨z+8,0,none⟩) 1 1] (some 18) Ae ?_
 intro w3 hw3
 refine Cb (args:=[.agg #[i6 16,i6 400,i6 8,i6 4,.slice (some ⟨z+3,0,none⟩) 1 1,.slice (some ⟨z+6,0,none⟩) 1 1,.slice none 0 0],.slice (some ⟨z+8,0,none⟩) 1 1]) 165 ⟨w,z+9,(q9l9_52 z w)⟩ Tryd.func8 rfl (by kernel_rfl) (by kernel_rfl) hw3 ?_
 refine q_c 15 1 [0] [[o0,o0,o0],[o0,o0,o0],[(an 7 10)]] [Qb (z+9),Qb (z+9),Qb (z+9),Qb (z+9),Qb (z+9),Qb (z+9),Qb (z+9)] [(Hw z),(Hq z),(24,.agg #[i6 16,i6 400,i6 8,i6 4,.slice (some ⟨z+3,0,none⟩) 1 1,.slice (some ⟨z+6,0,none⟩) 1 1,.slice none 0 0])] ⟨w,z+10,[(Ak w),(Ko z),(JS z),(Jc z),(Jd z),(JU z),(Jh z),(JM z),(Jo z),(Kz z),(KO z)]⟩ rfl ⟨rfl,rfl,rfl,rfl,rfl,rfl,rfl,Ae⟩ ?_
 refine l_call [] [] 17 #[.agg #[i6 16,i6 400,i6 8,i6 4,.slice (some ⟨z+3,0,none⟩) 1 1,.slice (some ⟨z+6,0,none⟩) 1 1,.slice none 0 0]] (some 25) Ae ?_
 intro w4 hw4
 refine(check_at w4 (hL.ext (hw4.ext rfl)) (⟨16,400,8,4,(⟨some ⟨z+3,0,none⟩,1,([(⟨some ⟨z+2,0,none⟩,1,([(⟨0,300,100⟩:Cf)]:List Cf)⟩:Sl Cf)]:List (Sl Cf))⟩:Sl (Sl Cf)),(⟨some ⟨z+6,0,none⟩,1,([(⟨⟨#[97]⟩,0,0,0,1,1,(⟨some ⟨z+5,0,none⟩,1,([(⟨0,1,2,7⟩:BB)]:List BB)⟩:Sl BB),(⟨none,0,[]⟩:Sl Ed)⟩:Ar)]:List Ar)⟩:Sl Ar),(⟨none,0,[]⟩:Sl AZ)⟩:Ai) (⟨(Ha (n:=16)),(Ha (n:=400)),(Ha (n:=8)),(Ha (n:=4)),(Q5 hw4 (cells:=(fun x:Sl Cf=>[Sl.val x])) (sz:=1) (ok:=(fun F W x=>La Cf.cells 3 Cf.ok F W x)) (i:=4) (fun _=>rfl) ([(⟨some ⟨z+2,0,none⟩,1,([(⟨0,300,100⟩:Cf)]:List Cf)⟩:Sl Cf)]:List (Sl Cf)) (Qx (p:=(fun F W x=>La Cf.cells 3 Cf.ok F W x) Any w4) (Q5 hw4 (cells:=Cf.cells) (sz:=3) (ok:=Cf.ok) (i:=3) (fun _=>rfl) ([(⟨0,300,100⟩:Cf)]:List Cf) (Qx (p:=Cf.ok Any w4) (⟨(Ha (n:=0)),(Ha (n:=300)),(Ha (n:=100))⟩:Cf.ok Any w4 ⟨0,300,100⟩) Su)) Su)),(Q5 hw4 (cells:=Ar.cells) (sz:=8) (ok:=Ar.ok) (i:=7) (fun _=>rfl) ([(⟨⟨#[97]⟩,0,0,0,1,1,(⟨some ⟨z+5,0,none⟩,1,([(⟨0,1,2,7⟩:BB)]:List BB)⟩:Sl BB),(⟨none,0,[]⟩:Sl Ed)⟩:Ar)]:List Ar) (Qx (p:=Ar.ok Any w4) (⟨(show(⟨#[97]⟩:ByteArray).size≤140737488351232 by decide),(Ha (n:=0)),(Ha (n:=0)),(Ha (n:=0)),(Ha (n:=1)),(Ha (n:=1)),(Q5 hw4 (cells:=BB.cells) (sz:=4) (ok:=BB.ok) (i:=6) (fun _=>rfl) ([(⟨0,1,2,7⟩:BB)]:List BB) (Qx (p:=BB.ok Any w4) (⟨(Ha (n:=0)),(Ha (n:=1)),(Ha (n:=2)),(Ha (n:=7))⟩:BB.ok Any w4 ⟨0,1,2,7⟩) Su)),VI⟩:Ar.ok Any w4 ⟨⟨#[97]⟩,0,0,0,1,1,(⟨some ⟨z+5,0,none⟩,1,([(⟨0,1,2,7⟩:BB)]:List BB)⟩:Sl BB),(⟨none,0,[]⟩:Sl Ed)⟩) Su)),VI⟩:Ai.ok Any w4 ⟨16,400,8,4,(⟨some ⟨z+3,0,none⟩,1,([(⟨some ⟨z+2,0,none⟩,1,([(⟨0,300,100⟩:Cf)]:List Cf)⟩:Sl Cf)]:List (Sl Cf))⟩:Sl (Sl Cf)),(⟨some ⟨z+6,0,none⟩,1,([(⟨⟨#[97]⟩,0,0,0,1,1,(⟨some ⟨z+5,0,none⟩,1,([(⟨0,1,2,7⟩:BB)]:List BB)⟩:Sl BB),(⟨none,0,[]⟩:Sl Ed)⟩:Ar)]:List Ar)⟩:Sl Ar),(⟨none,0,[]⟩:Sl AZ)⟩) (Nat.le_of_ble_eq_true (by kernel_rfl)) 0 (by kernel_rfl)).mono ?_
 rintro e w6 ⟨W5,rfl,hkw6⟩
 have hnw6:z+10≤w6.heap.size:=I5 hw4 hkw6
 refine⟨_,_,rfl,hw4.keeps hkw6, ?_⟩
 refine F8 11 1 [0] [[o0,o0,o0,o0,o0,(an 2 11)],[o0,o0],[(an 7 10)]] [Qb w6.heap.size,Qb w6.heap.size,Qb (z+9),Qb (z+9),Qb (z+9),Qb (z+9),Qb (z+9),Qb (z+9),Qb (z+9)] [(Hw z),(Hq z),(31,.agg #[i6 16,i6 400,i6 8,i6 4,.slice (some ⟨z+3,0,none⟩) 1 1,.slice (some ⟨z+6,0,none⟩) 1 1,.slice none 0 0])] ⟨w,w6.heap.size+1,[(Ak w),(Ko z),(JS z),(Jc z),(Jd z),(JU z),(Jh z),(JM z),(Jo z),(Kz z),(KO z),(Kq w6 W5)]⟩ rfl ⟨rfl,rfl,rfl,rfl,rfl,rfl,rfl,rfl,rfl,Ae⟩ ?_
 refine l_call [] [] 18 #[.agg #[i6 16,i6 400,i6 8,i6 4,.slice (some ⟨z+3,0,none⟩) 1 1,.slice (some ⟨z+6,0,none⟩) 1 1,.slice none 0 0]] (some 32) Ae ?_
 intro w7 hw7
 refine(of_yes w7 (⟨16,400,8,4,(⟨some ⟨z+3,0,none⟩,1,([(⟨some ⟨z+2,0,none⟩,1,([(⟨0,300,100⟩:Cf)]:List Cf)⟩:Sl Cf)]:List (Sl Cf))⟩:Sl (Sl Cf)),(⟨some ⟨z+6,0,none⟩,1,([(⟨⟨#[97]⟩,0,0,0,1,1,(⟨some ⟨z+5,0,none⟩,1,([(⟨0,1,2,7⟩:BB)]:List BB)⟩:Sl BB),(⟨none,0,[]⟩:Sl Ed)⟩:Ar)]:List Ar)⟩:Sl Ar),(⟨none,0,[]⟩:Sl AZ)⟩:Ai) (⟨(Ha (n:=16)),(Ha (n:=400)),(Ha (n:=8)),(Ha (n:=4)),(Q5 hw7 (cells:=(fun x:Sl Cf=>[Sl.val x])) (sz:=1) (ok:=(fun F W x=>La Cf.cells 3 Cf.ok F W x)) (i:=4) (fun _=>rfl) ([(⟨some ⟨z+2,0,none⟩,1,([(⟨0,300,100⟩:Cf)]:List Cf)⟩:Sl Cf)]:List (Sl Cf)) (Qx (p:=(fun F W x=>La Cf.cells 3 Cf.ok F W x) Any w7) (Q5 hw7 (cells:=Cf.cells) (sz:=3) (ok:=Cf.ok) (i:=3) (fun _=>rfl) ([(⟨0,300,100⟩:Cf)]:List Cf) (Qx (p:=Cf.ok Any w7) (⟨(Ha (n:=0)),(Ha (n:=300)),(Ha (n:=100))⟩:Cf.ok Any w7 ⟨0,300,100⟩) Su)) Su)),(Q5 hw7 (cells:=Ar.cells) (sz:=8) (ok:=Ar.ok) (i:=7) (fun _=>rfl) ([(⟨⟨#[97]⟩,0,0,0,1,1,(⟨some ⟨z+5,0,none⟩,1,([(⟨0,1,2,7⟩:BB)]:List BB)⟩:Sl BB),(⟨none,0,[]⟩:Sl Ed)⟩:Ar)]:List Ar) (Qx (p:=Ar.ok Any w7) (⟨(show(⟨#[97]⟩:ByteArray).size≤140737488351232 by decide),(Ha (n:=0)),(Ha (n:=0)),(Ha (n:=0)),(Ha (n:=1)),(Ha (n:=1)),(Q5 hw7 (cells:=BB.cells) (sz:=4) (ok:=BB.ok) (i:=6) (fun _=>rfl) ([(⟨0,1,2,7⟩:BB)]:List BB) (Qx (p:=BB.ok Any w7) (⟨(Ha (n:=0)),(Ha (n:=1)),(Ha (n:=2)),(Ha (n:=7))⟩:BB.ok Any w7 ⟨0,1,2,7⟩) Su)),VI⟩:Ar.ok Any w7 ⟨⟨#[97]⟩,0,0,0,1,1,(⟨some ⟨z+5,0,none⟩,1,([(⟨0,1,2,7⟩:BB)]:List BB)⟩:Sl BB),(⟨none,0,[]⟩:Sl Ed)⟩) Su)),VI⟩:Ai.ok Any w7 ⟨16,400,8,4,(⟨some ⟨z+3,0,none⟩,1,([(⟨some ⟨z+2,0,none⟩,1,([(⟨0,300,100⟩:Cf)]:List Cf)⟩:Sl Cf)]:List (Sl Cf))⟩:Sl (Sl Cf)),(⟨some ⟨z+6,0,none⟩,1,([(⟨⟨#[97]⟩,0,0,0,1,1,(⟨some ⟨z+5,0,none⟩,1,([(⟨0,1,2,7⟩:BB)]:List BB)⟩:Sl BB),(⟨none,0,[]⟩:Sl Ed)⟩:Ar)]:List Ar)⟩:Sl Ar),(⟨none,0,[]⟩:Sl AZ)⟩) (by kernel_rfl)).mono ?_
 rintro e w8 ⟨lay9,rfl,hIlay9,hOlay9, -,hkw8⟩
 have hnw8:w6.heap.size+1≤w8.heap.size:=I5 hw7 hkw8
 rw[hw7.size]at hOlay9;have hpllay9:lay9.Aa.xs.length=(⟨16,400,8,4,(⟨some ⟨z+3,0,none⟩,1,([(⟨some ⟨z+2,0,none⟩,1,([(⟨0,300,100⟩:Cf)]:List Cf)⟩:Sl Cf)]:List (Sl Cf))⟩:Sl (Sl Cf)),(⟨some ⟨z+6,0,none⟩,1,([(⟨⟨#[97]⟩,0,0,0,1,1,(⟨some ⟨z+5,0,none⟩,1,([(⟨0,1,2,7⟩:BB)]:List BB)⟩:Sl BB),(⟨none,0,[]⟩:Sl Ed)⟩:Ar)]:List Ar)⟩:Sl Ar),(⟨none,0,[]⟩:Sl AZ)⟩:Ai).Aa.xs.length:=hIlay9.pl
 refine⟨_,_,rfl,hw7.Ud hkw8, ?_⟩
 replace hpllay9:lay9.Aa.xs.length=1:=hpllay9
 refine F8 20 0 [0] [[o0,o0,o0,o0,(an 4 13),o0],[o0,o0],[o0,(a1 10),o0,o0,o0,o0],[o0,(a1 10),o0,o0]] [Qb w8.heap.size,Qb w8.heap.size,Qb w8.heap.size,Qb w8.heap.size,Qb (z+9),Qb (z+9)] [(Hw z),(Hq z),(L9 w8),(Ht w8),(LD z),(44,i6 1),(45,i6 0)] ⟨w,w8.heap.size+3,[(Ak w),(Ko z),(JS z),(Jc z),(Jd z),(JU z),(Jh z),(JM z),(Jo z),(Kz z),(KO z),(Kq w6 W5),(mid (w6.heap.size+1) w8),(KD w8 lay9),(Ch.blk (w8.heap.size+1) (.map #[] 0) true),(YH w8)]⟩ rfl ⟨rfl,rfl,rfl,rfl,rfl,rfl,Ae⟩ ?_
 refine Pn z 3 1 (fun x:Int=>[i6 x]) ?_
 refine Pn z 3 1 (fun x:Int=>[i6 x]) ?_
 refine Ym 40 ?_
 refine q_c 15 0 [1] [[o0],[o0,(oi 0),(an 8 7),o0,o0,(an 8 18)]] [(0:Int)=((0:Nat):Int),0<1,Ce,Qb (z+6),Qb (z+6),Qb (z+6),Qb (z+6),Qb (z+6),Qb (z+6),Qb (z+6),Qb (z+6),Qb (w8.heap.size+3),Qb (w8.heap.size+3),Qb (w8.heap.size+3),Qb (w8.heap.size+3),Qb (w8.heap.size+3),Qb (w8.heap.size+3),Qb (w8.heap.size+3),Qb (w8.heap.size+3)] [(Hw z),(Hq z),(L9 w8),(Ht w8),(LD z),(44,i6 1),(45,i6 0),(12,pt (w8.heap.size+3)),(11,i6 0)] ⟨w,w8.heap.size+4,[(Ak w),(Ko z),(JS z),(Jc z),(Jd z),(JU z),(Jh z),(JM z),(Jo z),(Kz z),(KO z),(Kq w6 W5),(mid (w6.heap.size+1) w8),(KD w8 lay9),(Ch.blk (w8.heap.size+1) (.map #[] 0) true),(YH w8),(Tv z),(Tv z),(MN w8 z)]⟩ rfl ⟨rfl,(by omega),rfl,rfl,rfl,rfl,rfl,rfl,rfl,rfl,rfl,rfl,rfl,rfl,rfl,rfl,rfl,rfl,rfl,Ae⟩ ?_
 refine DX 11 [0,1,2,3,4,5,6,7,8,9,10,11,12,13,14,15,18] [(Ak w),(Ko z),(JS z),(Jc z),(Jd z),(JU z),(Jh z),(JM z),(Jo z),(Kz z),(KO z),(Kq w6 W5),(mid (w6.heap.size+1) w8),(KD w8 lay9),(Ch.blk (w8.heap.size+1) (.map #[] 0) true),(YH w8),(MN w8 z)] rfl rfl ?_
 refine CU [(0,o0),(1,o0),(2,o0),(3,o0),(4,(a1 15)),(5,o0),(6,(a1 16))] [1,2,8,10,43,44,45,11,50,54,56] [Qb (w8.heap.size+2),Qb (w8.heap.size+3)] (D7 7 5) [(Hw z),(Hq z),(L9 w8),(Ht w8),(LD z),(44,i6 1),(45,i6 0),(11,i6 0),(50,pt (w8.heap.size+2)),(54,.slice none 0 0),(56,i6 1)] ⟨rfl,rfl,Ae⟩ ?_
 refine Bl 7 ?_
 refine BA o0 [1,2,8,10,43,44,45,11,50,54,57] [] [(Hw z),(Hq z),(L9 w8),(Ht w8),(LD z),(44,i6 1),(45,i6 0),(11,i6 0),(50,pt (w8.heap.size+2)),(54,.slice none 0 0),(57,.slice (some ⟨w8.heap.size+4,0,none⟩) 1 1)] ⟨w,w8.heap.size+5,[(Ak w),(Ko z),(JS z),(Jc z),(Jd z),(JU z),(Jh z),(JM z),(Jo z),(Kz z),(KO z),(Kq w6 W5),(mid (w6.heap.size+1) w8),(KD w8 lay9),(Ch.blk (w8.heap.size+1) (.map #[] 0) true),(YH w8),(Tv z),(Tv z),(MN w8 z),(Mc w8)]⟩ [0,1,2,3,4,5,6,7,8,9,10,11,12,13,14,15,18] Ae (.inr rfl) ?_
 refine Bl 8 ?_
 refine PO z 16 19 ([]) [1] (fun x:Int=>[i6 x]) 3 1 8 (.slice none 0 0) (w8.heap.size+4) 1 1 #[i6 1] 3 (0,0) true (some 58) [0,1,2,3,4,5,6,7,8,9,10,11,12,13,14,15,18] (by simp only[List.length_cons,List.length_nil];omega) (show z≤w8.heap.size+5 by omega) (.inr ⟨rfl,rfl⟩) (fun ax10 cp11 n12 (hn13:w8.heap.size+5≤n12) => ?_)
 refine Dw [1,2,8,10,43,44,45,11,50,58] [(Hw z),(Hq z),(L9 w8),(Ht w8),(LD z),(44,i6 1),(45,i6 0),(11,i6 0),(50,pt (w8.heap.size+2)),(58,.slice ax10 (([]++[1]).length) cp11)] ?_
 refine CU [(9,o0),(10,o0)] [1,2,8,10,43,44,45,11,58,60] [] (D7 11 1) [(Hw z),(Hq z),(L9 w8),(Ht w8),(LD z),(44,i6 1),(45,i6 0),(11,i6 0),(58,.slice ax10 (([]++[1]).length) cp11),(60,.pointer (some ⟨w8.heap.size+2,1,none⟩))] Ae ?_
 refine Bl 11 ?_
 refine BA (a1 15) [1,2,8,10,43,44,45,11] [Qb (w8.heap.size+2)] [(Hw z),(Hq z),(L9 w8),(Ht w8),(LD z),(44,i6 1),(45,i6 0),(11,i6 0)] ⟨w,n12,(q9l9_51 w8 z ax10 cp11 lay9 w6 W5 w)⟩ [] ⟨rfl,Ae⟩ (.inl rfl) ?_
 refine DU 12 [0,1,2,3,4,5,6,7,8,9,10,11,12,13,14,15,16,17,18,19] (q9l9_51 w8 z ax10 cp11 lay9 w6 W5 w) rfl rfl ?_
 refine CO ?_
 refine BK [1,2,8,10,43,44,45,11] [(Hw z),(Hq z),(L9 w8),(Ht w8),(LD z),(44,i6 1),(45,i6 0),(11,i6 0)] ?_
 refine GG ?_
 obtain⟨b14,o15,ha16,hF18,hc17⟩:=(hOlay9.Aa).1.all (show 0<lay9.Aa.xs.length by omega)
 replace ha16:lay9.Aa.a=some ⟨b14,o15,none⟩:=ha16
 have hc19:=hc17 0 (show 0<lay9.Aa.xs.length by omega)
 have he20:=(hOlay9.Aa).2 0 (show 0<lay9.Aa.xs.length by omega)
 obtain⟨y21,hy21⟩:∃ y_,y_=gd lay9.Aa.xs 0:=⟨_,rfl⟩
 rw[←hy21]at he20 hc19
 have hst:y21.State=149:=by rw[hy21];exact state_is hIlay9 (show 0<1 by decide)
 refine DX 16 [0,1,2,3,4,5,6,7,8,9,10,11,12,13,14,15,18,19] [(Ak w),(Ko z),(JS z),(Jc z),(Jd z),(JU z),(Jh z),(JM z),(Jo z),(Kz z),(KO z),(Kq w6 W5),(mid (w6.heap.size+1) w8),(KD w8 lay9),(Ch.blk (w8.heap.size+1) (.map #[] 0) true),(q9l9_7 w8 ax10 cp11),(MN w8 z),(Mc w8)] rfl rfl ?_
 refine CU [(0,o0),(1,o0),(2,o0),(3,o0),(4,(a1 15)),(5,o0),(6,(E8 13 b14 o15 lay9.Aa)),(7,o0),(8,(oi 0)),(9,o0),(10,(oa [.via 12 (i6 y21.State)])),(11,(ov (i6 (y21.State+4))))] [1,2,8,10,43,44,45,61,65,72] [Qb (w8.heap.size+2),Qb w8.heap.size,DZ b14 o15 lay9.Aa,(0:Int)=((0:Nat):Int),0<lay9.Aa.xs.length,Ce,∀ w',Ch.holds (mid (w6.heap.size+1) w8) w'→w'.cell? ⟨b14,o15+2,none⟩=some (i6 y21.State),Wr ((y21.State:Int)+4) (y21.State+4)] (D7 12 5) [(Hw z),(Hq z),(L9 w8),(Ht w8),(LD z),(44,i6 1),(45,i6 0),(61,pt (w8.heap.size+2)),(65,.slice none 0 0),(72,i6 (y21.State+4))] ⟨rfl,rfl,Ea ha16,rfl,(by omega),rfl,MF hF18 (hc19 2 _ rfl),BQ,Ae⟩ ?_
 refine Bl 12 ?_
 refine BA o0 [1,2,8,10,43,44,45,61,65,73] [] [(Hw z),(Hq z),(L9 w8),(Ht w8),(LD z),(44,i6 1),(45,i6 0),(61,pt (w8.heap.size+2)),(65,.slice none 0 0),(73,.slice (some ⟨n12,0,none⟩) 1 1)] ⟨w,n12+1,[(Ak w),(Ko z),(JS z),(Jc z),(Jd z),(JU z),(Jh z),(JM z),(Jo z),(Kz z),(KO z),(Kq w6 W5),(mid (w6.heap.size+1) w8),(KD w8 lay9),(Ch.blk (w8.heap.size+1) (.map #[] 0) true),(q9l9_7 w8 ax10 cp11),(Oa z ax10 cp11),(Tv z),(MN w8 z),(Mc w8),(OO y21 n12)]⟩ [0,1,2,3,4,5,6,7,8,9,10,11,12,13,14,15,18,19] Ae (.inr rfl) ?_
 refine Bl 13 ?_
 refine PO z 17 20 ([]) [y21.State+4] (fun x:Int=>[i6 x]) 3 1 8 (.slice none 0 0) n12 1 1 #[i6 (y21.State+4)] 3 (0,0) true (some 74) [0,1,2,3,4,5,6,7,8,9,10,11,12,13,14,15,18,19] (by simp only[List.length_cons,List.length_nil];omega) (show z≤n12+1 by omega) (.inr ⟨rfl,rfl⟩) (fun ax22 cp23 n24 (hn25:n12+1≤n24) => ?_)
 refine Dw [1,2,8,10,43,44,45,61,74] [(Hw z),(Hq z),(L9 w8),(Ht w8),(LD z),(44,i6 1),(45,i6 0),(61,pt (w8.heap.size+2)),(74,.slice ax22 (([]++[y21.State+4]).length) cp23)] ?_
 refine CU [(14,o0),(15,o0)] [1,2,8,10,43,44,45,74,76] [] (D7 16 1) [(Hw z),(Hq z),(L9 w8),(Ht w8),(LD z),(44,i6 1),(45,i6 0),(74,.slice ax22 (([]++[y21.State+4]).length) cp23),(76,.pointer (some ⟨w8.heap.size+2,2,none⟩))] Ae ?_
 refine Bl 16 ?_
 refine BA (a1 15) [1,2,8,10,43,44,45] [Qb (w8.heap.size+2)] [(Hw z),(Hq z),(L9 w8),(Ht w8),(LD z),(44,i6 1),(45,i6 0)] ⟨w,n24,(q9l9_50 w8 z ax10 cp11 ax22 y21 cp23 lay9 n12 w6 W5 w)⟩ [] ⟨rfl,Ae⟩ (.inl rfl) ?_
 refine DU 17 [0,1,2,3,4,5,6,7,8,9,10,11,12,13,14,15,16,17,18,19,20] (q9l9_50 w8 z ax10 cp11 ax22 y21 cp23 lay9 n12 w6 W5 w) rfl rfl ?_
 refine CO ?_
 refine LX 4 0 [] [[o0,o0]] [] [(Hw z),(Hq z),(L9 w8),(Ht w8),(LD z),(44,i6 1),(45,i6 1)] rfl Ae ?_
 refine Yl ?_
 refine Au 17 0 [0] [[o0],[o0,o0,o0]] [] [(Hw z),(Hq z),(Ht w8),(OY z),(79,i6 1),(80,i6 0)] rfl Ae ?_
 refine Ym 40 ?_
 refine q_c 19 0 [1] [[o0],[(oi 0),(an 3 9),o0,(an 3 21)],[o0,(a1 21),o0,(a1 21),o0,o0,(an 2 22)]] [(0:Int)=((0:Nat):Int),0<1,Ce,Qb (z+8),Qb (z+8),Qb (z+8),Qb n24,Qb n24,Qb n24,Qb n24,Qb n24,Qb (n24+1),Qb (n24+1)] [(Hw z),(Hq z),(Ht w8),(OY z),(79,i6 1),(80,i6 0),(14,pt n24),(Vu n24)] ⟨w,n24+2,(VA w8 z ax10 cp11 ax22 y21 cp23 n24 lay9 n12 w6 W5 w)⟩ rfl ⟨rfl,(by omega),rfl,rfl,rfl,rfl,rfl,rfl,rfl,rfl,rfl,rfl,rfl,Ae⟩ ?_
 refine DX 11 [0,1,2,3,4,5,6,7,8,9,10,11,12,13,14,15,16,17,18,19,20,21,22] (VA w8 z ax10 cp11 ax22 y21 cp23 n24 lay9 n12 w6 W5 w) rfl rfl ?_
 refine CU [(0,o0),(1,o0),(2,o0),(3,(a1 15)),(4,(an 2 22)),(5,(a1 14)),(6,o0),(7,o0),(8,o0),(9,o0),(10,o0)] [1,2,10,78,79,80,14,15,17] [Qb (w8.heap.size+2),Qb (n24+1),Qb (n24+1),Qb (w8.heap.size+1)] (D7 11 0) [(Hw z),(Hq z),(Ht w8),(OY z),(79,i6 1),(80,i6 0),(14,pt n24),(Vu n24),(17,.bool false)] ⟨rfl,rfl,rfl,rfl,Ae⟩ ?_
 refine CO ?_
 refine BK [1,2,10,78,79,80,14,15,17] [(Hw z),(Hq z),(Ht w8),(OY z),(79,i6 1),(80,i6 0),(14,pt n24),(Vu n24),(17,.bool false)] ?_
 refine GG <| CB <| CB <| DX 37 [0,1,2,3,4,5,6,7,8,9,10,11,12,13,14,15,16,17,18,19,20,21,22] (VA w8 z ax10 cp11 ax22 y21 cp23 n24 lay9 n12 w6 W5 w) rfl rfl ?_
 refine CU [(0,o0),(1,o0),(2,o0),(3,(a1 21)),(4,o0),(5,o0),(6,o0),(7,o0),(8,(a1 21)),(9,o0),(10,(a1 10)),(11,o0),(12,o0),(13,o0),(14,o0),(15,o0),(16,(a1 21)),(17,o0),(18,o0),(19,o0),(20,o0),(21,(a1 21)),(22,o0),(23,o0),(24,o0),(25,o0),(26,(a1 21)),(27,o0),(28,o0),(29,(a1 10)),(30,o0),(31,(a1 21)),(32,(oi 0)),(33,o0),(34,(a1 7)),(35,o0),(36,o0)] [1,2,10,78,79,80,14,15,100,101,102,105,106,107,108,109,110,113,114,115,118,119,120,123,124,125,126,127,128,129,130,131,132,133,134] [Qb n24,Qb n24,Qb (z+9),Qb n24,Qb n24,Qb n24,Qb (z+9),Qb n24,(0:Int)=((0:Nat):Int),0<1,Ce,Qb (z+6)] (D7 37 0) [(Hw z),(Hq z),(Ht w8),(OY z),(79,i6 1),(80,i6 0),(14,pt n24),(Vu n24),(TG n24),(101,i6 0),(102,.bool false),(TC n24),(106,i6 0),(TY z),(TZ z),(109,i6 1),(110,.bool false),(TQ n24),(114,i6 3),(115,.bool false),(TN n24),(119,i6 3),(120,.bool false),(Tc n24),(TI z),(125,i6 1),(Ti z),(Tz z),(TF n24),(129,i6 0),(TV z),(Ua z),(132,i6 1),(133,.bool false),(134,.bool false)] ⟨rfl,rfl,rfl,rfl,rfl,rfl,rfl,rfl,rfl,(by omega),rfl,rfl,Ae⟩ ?_
 refine CO ?_
 refine BK [1,2,10,78,79,80,14,15,100,101,102,105,106,107,108,109,110,113,114,115,118,119,120,123,124,125,126,127,128,129,130,131,132,133,134] [(Hw z),(Hq z),(Ht w8),(OY z),(79,i6 1),(80,i6 0),(14,pt n24),(Vu n24),(TG n24),(101,i6 0),(102,.bool false),(TC n24),(106,i6 0),(TY z),(TZ z),(109,i6 1),(110,.bool false),(TQ n24),(114,i6 3),(115,.bool false),(TN n24),(119,i6 3),(120,.bool false),(Tc n24),(TI z),(125,i6 1),(Ti z),(Tz z),(TF n24),(129,i6 0),(TV z),(Ua z),(132,i6 1),(133,.bool false),(134,.bool false)] ?_
 refine GG <| VD <| YT <| GG <| DX 8 [0,1,2,3,4,5,6,7,8,9,10,11,12,13,14,15,16,17,18,19,20,21,22] (VA w8 z ax10 cp11 ax22 y21 cp23 n24 lay9 n12 w6 W5 w) rfl rfl ?_
 refine CU [(0,o0),(1,o0),(2,o0),(3,(a1 15)),(4,(an 2 22)),(5,o0),(6,(a1 21))] [1,2,10,78,79,80,100,101,102,105,106,107,108,109,110,113,114,115,118,119,120,123,124,125,126,127,128,129,130,131,132,133,138,139,141] [Qb (w8.heap.size+2),Qb (n24+1),Qb (n24+1),Qb n24] (D7 7 2) [(Hw z),(Hq z),(Ht w8),(OY z),(79,i6 1),(80,i6 0),(TG n24),(101,i6 0),(102,.bool false),(TC n24),(106,i6 0),(TY z),(TZ z),(109,i6 1),(110,.bool false),(TQ n24),(114,i6 3),(115,.bool false),(TN n24),(119,i6 3),(120,.bool false),(Tc n24),(TI z),(125,i6 1),(Ti z),(Tz z),(TF n24),(129,i6 0),(TV z),(Ua z),(132,i6 1),(133,.bool false),(138,.map (some (w8.heap.size+1))),(139,.agg #[i6 0,i6 3]),(141,.slice (some ⟨z+7,0,none⟩) 1 1)] ⟨rfl,rfl,rfl,rfl,Ae⟩ ?_
 refine Bl 7 ?_
 refine IG [] [] 19 #[.slice (some ⟨z+7,0,none⟩) 1 1] (some 142) (by as_aux_lemma=>kernel_rfl) rfl rfl Ae ?_
 intro w26 hw26
 refine Cb (args:=[.slice (some ⟨z+7,0,none⟩) 1 1]) 8 ⟨w,n24+2,(VA w8 z ax10 cp11 ax22 y21 cp23 n24 lay9 n12 w6 W5 w)⟩ Tryd.func19 rfl (by kernel_rfl) (by kernel_rfl) hw26 ?_
 refine q_c 14 2 [0] [[o0],[o0,o0],[o0,o0]] [] [(5,.slice (some ⟨n24+2,0,none⟩) 0 0),(6,.slice (some ⟨z+7,0,none⟩) 1 1)] ⟨w,n24+3,[(Ak w),(Ko z),(JS z),(Jc z),(Jd z),(JU z),(Jh z),(JM z),(Jo z),(Kz z),(KO z),(Kq w6 W5),(mid (w6.heap.size+1) w8),(KD w8 lay9),(Ch.blk (w8.heap.size+1) (.map #[] 0) true),(QU w8 ax10 cp11 ax22 y21 cp23),(Oa z ax10 cp11),(PL z ax22 y21 cp23),(MN w8 z),(Mc w8),(OO y21 n12),(Qp z n24),(QI n24),(bk (n24+2) #[] 54)]⟩ rfl Ae ?_
 refine l_blkrow 23 (n24+2) z 54 1 (fun x:Int=>[Value.int .u32 x]) ([]:List Int) #[] (by omega) (?_:Lg _ _ _ _ ⟨w,n24+3,[(Ak w),(Ko z),(JS z),(Jc z),(Jd z),(JU z),(Jh z),(JM z),(Jo z),(Kz z),(KO z),(Kq w6 W5),(mid (w6.heap.size+1) w8),(KD w8 lay9),(Ch.blk (w8.heap.size+1) (.map #[] 0) true),(QU w8 ax10 cp11 ax22 y21 cp23),(Oa z ax10 cp11),(PL z ax22 y21 cp23),(MN w8 z),(Mc w8),(OO y21 n12),(Qp z n24),(QI n24),(Cm z 54 1 (fun x:Int=>[Value.int .u32 x]) (.slice (some ⟨n24+2,0,none⟩) 0 0) ([]:List Int))]⟩ _ _ _ _)
 refine NY z 23 8 ([]:List Int) [77] (fun x:Int=>[Value.int .u32 x]) 54 1 4 (.slice (some ⟨n24+2,0,none⟩) 0 0) (z+7) 1 1 #[.int .u32 77] 54 (0,0) true (some 7) (by simp only[List.length_cons,List.length_nil];omega) (show z≤n24+3 by omega) (fun ax27 cp28 n29 (hn30:n24+3≤n29) => ?_)
 refine Bq 3 0 [] [[o0]] [] [(2,.slice ax27 1 cp28)] rfl Ae ?_
 refine Az [] [] (.slice ax27 1 cp28) Ae ?_
 intro w31 hw31
 have hs32:=hw31
 refine⟨_,_,rfl,hs32,.inr (fun c hc=>hs32.all c (by first | exact hc | exact EM (is:=[0,1,2,3,4,5,6,7,8,9,10,11,12,13,14,15,16,17,18,19,20,21,22]) rfl c hc)), ?_⟩
 refine Dw [1,2,10,78,79,80,100,101,102,105,106,107,108,109,110,113,114,115,118,119,120,123,124,125,126,127,128,129,130,131,132,133,138,139,142] [(Hw z),(Hq z),(Ht w8),(OY z),(79,i6 1),(80,i6 0),(TG n24),(101,i6 0),(102,.bool false),(TC n24),(106,i6 0),(TY z),(TZ z),(109,i6 1),(110,.bool false),(TQ n24),(114,i6 3),(115,.bool false),(TN n24),(119,i6 3),(120,.bool false),(Tc n24),(TI z),(125,i6 1),(Ti z),(Tz z),(TF n24),(129,i6 0),(TV z),(Ua z),(132,i6 1),(133,.bool false),(138,.map (some (w8.heap.size+1))),(139,.agg #[i6 0,i6 3]),(142,.slice ax27 1 cp28)] ?_
 refine Bl 8 ?_
 refine BA (an 2 14) [1,2,10,78,79,80,100,101,102,105,106,107,108,109,110,113,114,115,118,119,120,123,124,125,126,127,128,129,130,131,132,133] [Qb (w8.heap.size+1),Qb (w8.heap.size+1)] [(Hw z),(Hq z),(Ht w8),(OY z),(79,i6 1),(80,i6 0),(TG n24),(101,i6 0),(102,.bool false),(TC n24),(106,i6 0),(TY z),(TZ z),(109,i6 1),(110,.bool false),(TQ n24),(114,i6 3),(115,.bool false),(TN n24),(119,i6 3),(120,.bool false),(Tc n24),(TI z),(125,i6 1),(Ti z),(Tz z),(TF n24),(129,i6 0),(TV z),(Ua z),(132,i6 1),(133,.bool false)] ⟨w,n29,(q9l9_48 w8 z ax10 cp11 ax22 y21 cp23 n24 lay9 n12 w6 W5 cp28 ax27 w)⟩ [] ⟨rfl,rfl,Ae⟩ (.inl rfl) ?_
 refine DU 9 [0,1,2,3,4,5,6,7,8,9,10,11,12,13,14,15,16,17,18,19,20,21,22,23] (q9l9_48 w8 z ax10 cp11 ax22 y21 cp23 n24 lay9 n12 w6 W5 cp28 ax27 w) rfl rfl ?_
 refine CO ?_
 refine LX 4 0 [] [[o0,o0]] [] [(Hw z),(Hq z),(Ht w8),(OY z),(79,i6 1),(80,i6 1),(TG n24),(101,i6 0),(102,.bool false),(TC n24),(106,i6 0),(TY z),(TZ z),(109,i6 1),(110,.bool false),(TQ n24),(114,i6 3),(115,.bool false),(TN n24),(119,i6 3),(120,.bool false),(Tc n24),(TI z),(125,i6 1),(Ti z),(Tz z),(TF n24),(129,i6 0),(TV z),(Ua z),(132,i6 1),(133,.bool false)] rfl Ae ?_
 refine Yl ?_
 refine Au 17 0 [0] [[o0],[o0,o0,o0]] [] [(Ht w8),(144,.slice (some ⟨z+8,0,none⟩) 1 1),(145,i6 1),(146,i6 0)] rfl Ae ?_
 refine Ym 40 ?_
 refine q_c 24 0 [1,0] [[o0],[(oi 0),(an 3 9),o0,(an 3 24)],[o0,(a1 24),o0,o0],[o0,o0]] [(0:Int)=((0:Nat):Int),0<1,Ce,Qb (z+8),Qb (z+8),Qb (z+8),Qb n29,Qb n29,Qb n29,Qb n29] [(Ht w8),(144,.slice (some ⟨z+8,0,none⟩) 1 1),(145,i6 1),(146,i6 1)] ⟨w,n29+1,[(Ak w),(Ko z),(JS z),(Jc z),(Jd z),(JU z),(Jh z),(JM z),(Jo z),(Kz z),(KO z),(Kq w6 W5),(mid (w6.heap.size+1) w8),(KD w8 lay9),(Ch.blk (w8.heap.size+1) (.map #[{ key:= .agg #[i6 0,i6 3],val:= .slice ax27 1 cp28,born:=0 }] 1) true),(QU w8 ax10 cp11 ax22 y21 cp23),(Oa z ax10 cp11),(PL z ax22 y21 cp23),(MN w8 z),(Mc w8),(OO y21 n12),(Qp z n24),(QI n24),(ZU z cp28 ax27),(XO z n29)]⟩ rfl ⟨rfl,(by omega),rfl,rfl,rfl,rfl,rfl,rfl,rfl,rfl,Ae⟩ ?_
 refine Yl ?_
 refine Au 16 0 [0] [[o0],[o0,o0,o0]] [] [(4,pt (w8.heap.size+2)),(5,i6 0)] rfl Ae ?_
 refine Az [] [] (.tuple #[pt (w8.heap.size+2),i6 0]) Ae ?_
 intro w33 hw33
 refine⟨_,_,rfl,hw33, ?_⟩
 refine Bq 4 0 [] [[o0,o0,o0,o0,o0]] [] [(1,pt (w8.heap.size+2)),(2,i6 0)] rfl Ae ?_
 refine l_call [] [] 10 #[i6 16] (some 22) Ae ?_
 intro w34 hw34
 refine(memnew_calls w34 16 (by omega) (by omega)).mono ?_
 rintro e w35 ⟨mq36,ax37,cp38,rfl,hqw35,w39,hOw35,hkw35⟩
 have hnw35:n29+1≤w35.heap.size:=I5 hw34 hkw35
 rw[show w34.heap.size=n29+1 from hw34.size]at hOw35 hqw35
 refine⟨_,_,rfl,hw34.keepsO hkw35 hOw35 (memS_new hOw35 hqw35), ?_⟩
 refine Bq 12 1 [0] [[o0,o0,o0,o0,o0],[o0,o0,o0,o0,o0,o0,o0,o0,o0,o0,o0,o0,o0,o0],[o0]] [] [(1,pt (w8.heap.size+2)),(3,pt mq36),(40,pt (w8.heap.size+2))] rfl Ae ?_
 refine l_call [] [] 13 #[pt (w8.heap.size+2),i6 0,i6 3,.int .u32 0] (some 41) Ae ?_
 intro w40 hw40
 refine Cb (args:=[pt (w8.heap.size+2),i6 0,i6 3,.int .u32 0]) 31 ⟨w,w35.heap.size,[(Ak w),(Ko z),(JS z),(Jc z),(Jd z),(JU z),(Jh z),(JM z),(Jo z),(Kz z),(KO z),(Kq w6 W5),(mid (w6.heap.size+1) w8),(KD w8 lay9),(Ch.blk (w8.heap.size+1) (.map #[{ key:= .agg #[i6 0,i6 3],val:= .slice ax27 1 cp28,born:=0 }] 1) true),(QU w8 ax10 cp11 ax22 y21 cp23),(Oa z ax10 cp11),(PL z ax22 y21 cp23),(MN w8 z),(Mc w8),(OO y21 n12),(Qp z n24),(QI n24),(ZU z cp28 ax27),(XO z n29),(bk mq36 #[.slice ax37 256 cp38] 81),(Zk n29 ax37 cp38)]⟩ Tryd.func13 rfl (by kernel_rfl) (by kernel_rfl) hw40 ?_
 refine Au 25 0 [0,0] [[o0,o0],[o0,o0],[o0,o0,o0,(a1 15),o0,o0,o0,(a1 14),o0],[o0,o0,o0,o0,o0,o0]] [Qb (w8.heap.size+2),Qb (w8.heap.size+1)] [(3,.int .u32 0),(10,.slice ax27 1 cp28),(26,.bool false)] rfl ⟨rfl,rfl,Ae⟩ ?_
 refine Lc (base:=z) (e:=54) (sz:=1) (cells:=(fun x:Int=>[Value.int .u32 x])) (a:=ax27) (n:=1) (cap:=cp28) (xs:=(([]:List Int)++[77])) 23 (by exact(show 0<1 by decide)) (fun b41 hg42 hb43 => ?_)
 subst hg42
 refine DX 6 [0,1,2,3,4,5,6,7,8,9,10,11,12,13,14,15,16,17,18,19,20,21,22,23,24,25,26] (ZN w8 z ax10 cp11 ax22 y21 cp23 n24 n29 lay9 n12 w6 W5 b41 cp28 ax37 cp38 w mq36) rfl rfl ?_
 refine CU [(0,o0),(1,o0),(2,(oi 0)),(3,(oa [.via 23 (.int .u32 77)])),(4,o0),(5,o0)] [8,9] [(0:Int)=((0:Nat):Int),0<1,Ce,∀ w',Ch.holds (ZZ z b41 cp28) w'→w'.cell? ⟨b41,0,none⟩=some (.int .u32 77)] (D7 6 0) [(8,i6 0),(9,.int .u32 77)] ⟨rfl,(by omega),rfl,Fp (sz:=1) (j:=0) (k:=0) (fun _=>rfl) (by exact(show 0<1 by decide)) (by rfl),Ae⟩ ?_
 refine CO ?_
 refine BK [8,9] [(8,i6 0),(9,.int .u32 77)] ?_
 refine GG <| Ku <| Az [] [] (.tuple #[i6 0,.int .u32 77]) Ae ?_
 intro w44 hw44
 refine⟨_,_,rfl,hw44, ?_⟩
 refine Bq 4 1 [] [[o0,o0,o0,o0,o0],[o0]] [] [(1,pt (w8.heap.size+2)),(3,pt mq36),(5,i6 0),(6,.int .u32 77),(45,pt (w8.heap.size+2))] rfl Ae ?_
 refine l_call [] [] 13 #[pt (w8.heap.size+2),i6 0,i6 4,.int .u32 0] (some 46) Ae ?_
 intro w45 hw45
 refine Cb (args:=[pt (w8.heap.size+2),i6 0,i6 4,.int .u32 0]) 31 ⟨w,w35.heap.size,(ZN w8 z ax10 cp11 ax22 y21 cp23 n24 n29 lay9 n12 w6 W5 b41 cp28 ax37 cp38 w mq36)⟩ Tryd.func13 rfl (by kernel_rfl) (by kernel_rfl) hw45 ?_
 refine Au 27 0 [0,1] [[o0,o0],[o0,o0],[o0,o0,o0,(a1 15),o0,o0,o0,(a1 14),o0],[o0,o0,o0,o0,o0,o0],[o0,o0]] [Qb (w8.heap.size+2),Qb (w8.heap.size+1)] [(8,i6 7),(9,.int .u32 0)] rfl ⟨rfl,rfl,Ae⟩ ?_
 refine Az [] [] (.tuple #[i6 7,.int .u32 0]) Ae ?_
 intro w46 hw46
 refine⟨_,_,rfl,hw46, ?_⟩
 refine Bq 4 2 [] [[o0,o0,o0,o0,o0],[o0,o0]] [] [(1,pt (w8.heap.size+2)),(3,pt mq36),(5,i6 0),(6,.int .u32 77),(7,i6 7),(8,.int .u32 0),(50,pt (w8.heap.size+2)),(51,pt mq36)] rfl Ae ?_
 refine l_call [] [] 12 #[pt (w8.heap.size+2),pt mq36,i6 0] (some 52) Ae ?_
 intro w47 hw47
 (try dsimp only[MN,QU,JS,KO,Ko,JU,JM,Kz,Qp,XO,Jh,Jc,Jd,QI,Mc,KD,OO,Kq,Jo,PL,ZZ,Zk,Oa,ZN]at hw47)
 rw[show y21.State+4=(153:Int)from by rw[hst];rfl]at hw47
 have hq49:=hw47.pick [15,16,17,25,26] rfl rfl
 have hgo:=out_calls w47 w z (w8.heap.size+2) 16 1 [1] [153] ax10 cp11 ax22 cp23 (.map (some (w8.heap.size+1))) (n29+1) mq36 ax37 256 cp38 (List.replicate 256 0) (by rw[hw47.size];exact hq49) _ rfl (by have:=hw47.size;simp only[]at this;omega) (by have:=hw47.size;simp only[]at this;omega) VQ 0 (by exact⟨by decide,by decide⟩);rw[out_small1]at hgo
 refine hgo.mono ?_
 rintro e w48 ⟨rfl,hSw48,hkw48⟩
 have hnw48:w35.heap.size≤w48.heap.size:=I5 hw47 hkw48
 refine⟨_,_,rfl,hw47.turn [0,1,2,3,4,5,6,7,8,9,10,11,12,13,14,18,19,20,21,22,23,24] [15,16,17,25,26] rfl rfl rfl (by decide) (fun c hc=>by simp only[List.mem_cons,List.not_mem_nil,or_false]at hc;rcases hc with rfl | rfl | rfl | rfl | rfl <;> rfl) hkw48 (fun c hc=>⟨hSw48.all c hc,hSw48.OZ c hc,fun b hb=>⟨hSw48.bnd c hc b hb,.inl (Y9 ⟨c,hc,hb⟩)⟩⟩) hSw48.Oj, ?_⟩
 refine Bq 4 2 [] [[o0,o0,o0,o0,o0],[o0,o0]] [] [(5,i6 0),(6,.int .u32 77),(7,i6 7),(8,.int .u32 0),(9,i6 0),(10,i6 0),(56,pt (w8.heap.size+2)),(57,pt mq36)] rfl Ae ?_
 refine l_call [] [] 12 #[pt (w8.heap.size+2),pt mq36,i6 0] (some 58) Ae ?_
 intro w50 hw50
 have hq52:=hw50.pick [22,23,24,25,26] rfl rfl
 have hgo:=out_calls w50 w z (w8.heap.size+2) 16 1 [1] [153] ax10 cp11 ax22 cp23 (.map (some (w8.heap.size+1))) (n29+1) mq36 ax37 256 cp38 ((List.replicate 256 0).set 153 1) (by rw[hw50.size];exact hq52) _ rfl (by have:=hw50.size;simp only[]at this;omega) (by have:=hw50.size;simp only[]at this;omega) (dv_set VQ (by decide)) 0 (by exact⟨by decide,by decide⟩);rw[out_small2]at hgo
 refine hgo.mono ?_
 rintro e w51 ⟨rfl,hSw51,hkw51⟩
 have hnw51:w48.heap.size≤w51.heap.size:=I5 hw50 hkw51
 refine⟨_,_,rfl,hw50.turn [0,1,2,3,4,5,6,7,8,9,10,11,12,13,14,15,16,17,18,19,20,21] [22,23,24,25,26] rfl rfl rfl (by decide) (fun c hc=>by simp only[List.mem_cons,List.not_mem_nil,or_false]at hc;rcases hc with rfl | rfl | rfl | rfl | rfl <;> rfl) hkw51 (fun c hc=>⟨hSw51.all c hc,hSw51.OZ c hc,fun b hb=>⟨hSw51.bnd c hc b hb,.inl (Y9 ⟨c,hc,hb⟩)⟩⟩) hSw51.Oj, ?_⟩
 refine Bq 7 0 [] [[o0,o0,o0,o0,o0],[o0,o0,o0,o0,o0,o0,o0,o0,o0,o0,o0,o0,o0,o0,o0,o0,o0,o0,o0,o0,o0,o0,o0,o0,o0,o0,o0,o0,o0,o0,o0]] [] [(0,.bool true)] rfl Ae ?_
 refine Az [] [] (.bool true) Ae ?_
 intro w53 hw53
 exact⟨rfl,AA hw53⟩
end Go.Proofs.YtjdmhijaanmccaaDoor.Dv
namespace Go.Proofs.YtjdmhijaanmccaaDoor.Ad
open Go Go.Proofs.YtjdmhijaanmccaaDoor.Eng Go.Proofs.YtjdmhijaanmccaaDoor.Mem Go.Proofs.YtjdmhijaanmccaaDoor.Ly
set_option linter.unusedSimpArgs false
set_option linter.unusedVariables false
set_option maxRecDepth 100000
theorem V4(bs:ByteArray):∀ (n i:Nat) (r:List UInt8),bs.size - i=n→(ByteArray.toList.loop bs i r).length=n+r.length
 | 0,i,r,h=>by
  unfold ByteArray.toList.loop
  rw[if_neg (by omega)];simp
 | n+1,i,r,h=>by
  unfold ByteArray.toList.loop
  rw[if_pos (by omega),V4 bs n (i+1) _ (by omega)]
  simp;omega
theorem str_nil{s:ByteArray}(h:s.toList=(⟨#[]⟩:ByteArray).toList):s.size=0:=by
 have h1:=congrArg List.length h
 unfold ByteArray.toList at h1
 rw[V4 s s.size 0 [] (by omega),V4 (⟨#[]⟩:ByteArray) 0 0 [] (by rfl)]at h1
 simpa using h1
theorem str_pos{s:ByteArray}(h:¬ s.toList=(⟨#[]⟩:ByteArray).toList):0<s.size:=by
 rcases Nat.eq_zero_or_pos s.size with h0 | h0
 ·exfalso
  apply h
  have h1:=V4 s s.size 0 [] (by omega)
  have h2:=V4 (⟨#[]⟩:ByteArray) 0 0 [] (by rfl)
  unfold ByteArray.toList
  rw[h0]at h1
  rw[List.eq_nil_of_length_eq_zero h1,List.eq_nil_of_length_eq_zero h2]
 exact h0
def Gh(c:Ai):Am:=AV [Gm c,whole2 c,Gg c,Gi c,FH c]
def Ns(x:Ar):Bool:=win x.Entry 0 4095&&Gt x
theorem split_ref{c:Ai}{k:Nat}{p:Int}(hp : -1≤p):Ik c k p=(List.range k).any (fun i=>(List.range (DT c i).xs.length).any (fun n => !decide (p = -1)&&decide ((gd (DT c i).xs n).Partition=p))):=by
 unfold Ik Yv
 congr 1
 funext i
 congr 1
 funext n
 rw[show decide (0≤p) = !decide (p = -1)from by by_cases h:p = -1 <;> simp[h];omega]
theorem Gj(w:World)(n a b:Int):Calls Tryd.prog 43 #[.int .i64 n,.int .i64 a,.int .i64 b] w fun e w'=>e = .returned (.bool (win n a b))∧CE (fun _=>False) w w':=by
 obtain⟨z,hz⟩:∃ z,z=w.heap.size:=⟨_,rfl⟩
 refine Cb (args:=[i6 n,i6 a,i6 b]) 15 ⟨w,z,[(Ak w)]⟩ Tryd.func43 rfl (by kernel_rfl) (by kernel_rfl) (Em hz) ?_
 refine DI [0,1,2] [(0,i6 n),(1,i6 a),(2,i6 b)] ?_
 refine Au 5 0 [] [[o0]] [] [(0,i6 n),(1,i6 a),(2,i6 b)] rfl Ae ?_
 by_cases h1:(n:Int)<a
 ·refine Au 4 0 [] [[o0,o0,oF,o0,o0,o0]] [BF ((n:Int)≥a)] [(6,.bool false)] rfl ⟨bf,Ae⟩ ?_
  refine Az [] [] (.bool false) Ae ?_
  intro w2 hw2
  refine⟨congrArg Ending.returned (?_:Value.bool false = .bool (win n a b)),AA hw2⟩
  unfold win;congr 1;simp;omega
 by_cases h3:(b:Int)<n
 ·refine Au 4 0 [] [[o0,o0,oT,o0,o0,o0,oF,o0,o0]] [BT ((n:Int)≥a),BF ((n:Int)≤b)] [(6,.bool false)] rfl ⟨bt,bf,Ae⟩ ?_
  refine Az [] [] (.bool false) Ae ?_
  intro w4 hw4
  refine⟨congrArg Ending.returned (?_:Value.bool false = .bool (win n a b)),AA hw4⟩
  unfold win;congr 1;simp;omega
 refine Au 4 0 [] [[o0,o0,oT,o0,o0,o0,oT,o0,o0]] [BT ((n:Int)≥a),BT ((n:Int)≤b)] [(6,.bool true)] rfl ⟨bt,bt,Ae⟩ ?_
 refine Az [] [] (.bool true) Ae ?_
 intro w5 hw5
 refine⟨congrArg Ending.returned (?_:Value.bool true = .bool (win n a b)),AA hw5⟩
 unfold win;congr 1;simp;omega
theorem XW(w:World)  : Calls Tryd.prog 21 #[] w fun e w'=>e = .returned (.agg #[.int .i64 (-1),.int .i64 (-1)])∧CE (fun _=>False) w w':=by
 obtain⟨z,hz⟩:∃ z,z=w.heap.size:=⟨_,rfl⟩
 refine Cb (args:=[]) 2 ⟨w,z,[(Ak w)]⟩ Tryd.func21 rfl (by kernel_rfl) (by kernel_rfl) (Em hz) ?_
 refine DI [] [] ?_
 refine q_c 9 0 [] [[o0],[o0,(an 2 1)]] [Qb z,Qb z] [(0,pt z)] ⟨w,z+1,[(Ak w),(bk z #[i6 (-1),i6 (-1)] 38)]⟩ rfl ⟨rfl,rfl,Ae⟩ ?_
 refine Az [.at 1,.at 1] [Qb z,Qb z] (.agg #[i6 (-1),i6 (-1)]) ⟨rfl,rfl,Ae⟩ ?_
 intro w1 hw1
 refine⟨congrArg Ending.returned (?_:Value.agg #[i6 (-1),i6 (-1)] = .agg #[i6 (-1),i6 (-1)]),AA hw1⟩
 rfl
theorem JJ(w:World)(n:Int):Calls Tryd.prog 24 #[.int .i64 n] w fun e w'=>e = .returned (.agg #[.int .i64 n,.int .i64 (-1)])∧CE (fun _=>False) w w':=by
 obtain⟨z,hz⟩:∃ z,z=w.heap.size:=⟨_,rfl⟩
 refine Cb (args:=[i6 n]) 5 ⟨w,z,[(Ak w)]⟩ Tryd.func24 rfl (by kernel_rfl) (by kernel_rfl) (Em hz) ?_
 refine DI [0] [(0,i6 n)] ?_
 refine q_c 9 0 [] [[o0],[o0,o0,(an 2 1)]] [Qb z,Qb z] [(2,pt z)] ⟨w,z+1,[(Ak w),(bk z #[i6 n,i6 (-1)] 38)]⟩ rfl ⟨rfl,rfl,Ae⟩ ?_
 refine Az [.at 1,.at 1] [Qb z,Qb z] (.agg #[i6 n,i6 (-1)]) ⟨rfl,rfl,Ae⟩ ?_
 intro w1 hw1
 refine⟨congrArg Ending.returned (?_:Value.agg #[i6 n,i6 (-1)] = .agg #[i6 n,i6 (-1)]),AA hw1⟩
 rfl
theorem Si(w:World)(a m b o:Int)(h1 : -4611686018427387904≤a∧a≤4611686018427387903)(h2 : -4611686018427387904≤m∧m≤4611686018427387903)(h3 : -4611686018427387904≤b∧b≤4611686018427387903)(h4 : -4611686018427387904≤o∧o≤4611686018427387903):Calls Tryd.prog 49 #[.int .i64 a,.int .i64 m,.int .i64 b,.int .i64 o] w fun e w'=>e = .returned (.bool (meet a m b o))∧CE (fun _=>False) w w':=by
 obtain⟨z,hz⟩:∃ z,z=w.heap.size:=⟨_,rfl⟩
 refine Cb (args:=[i6 a,i6 m,i6 b,i6 o]) 21 ⟨w,z,[(Ak w)]⟩ Tryd.func49 rfl (by kernel_rfl) (by kernel_rfl) (Em hz) ?_
 refine DI [0,1,2,3] [(0,i6 a),(1,i6 m),(2,i6 b),(3,i6 o)] ?_
 refine Au 5 0 [] [[o0]] [] [(0,i6 a),(1,i6 m),(2,i6 b),(3,i6 o)] rfl Ae ?_
 by_cases h1:(a:Int)<b+o
 ·by_cases h2:(b:Int)<a+m
  ·refine Au 4 0 [] [[o0,o0,o0,(ov (i6 (b+o))),oT,o0,o0,o0,o0,(ov (i6 (a+m))),oT,o0,o0]] [Wr ((b:Int)+o) (b+o),BT ((a:Int)<(b+o)),Wr ((a:Int)+m) (a+m),BT ((b:Int)<(a+m))] [(8,.bool true)] rfl ⟨BQ,bt,BQ,bt,Ae⟩ ?_
   refine Az [] [] (.bool true) Ae ?_
   intro w3 hw3
   refine⟨congrArg Ending.returned (?_:Value.bool true = .bool (meet a m b o)),AA hw3⟩
   unfold meet;congr 1;simp;omega
  refine Au 4 0 [] [[o0,o0,o0,(ov (i6 (b+o))),oT,o0,o0,o0,o0,(ov (i6 (a+m))),oF,o0,o0]] [Wr ((b:Int)+o) (b+o),BT ((a:Int)<(b+o)),Wr ((a:Int)+m) (a+m),BF ((b:Int)<(a+m))] [(8,.bool false)] rfl ⟨BQ,bt,BQ,bf,Ae⟩ ?_
  refine Az [] [] (.bool false) Ae ?_
  intro w4 hw4
  refine⟨congrArg Ending.returned (?_:Value.bool false = .bool (meet a m b o)),AA hw4⟩
  unfold meet;congr 1;simp;omega
 refine Au 4 0 [] [[o0,o0,o0,(ov (i6 (b+o))),oF,o0,o0,o0]] [Wr ((b:Int)+o) (b+o),BF ((a:Int)<(b+o))] [(8,.bool false)] rfl ⟨BQ,bf,Ae⟩ ?_
 refine Az [] [] (.bool false) Ae ?_
 intro w5 hw5
 refine⟨congrArg Ending.returned (?_:Value.bool false = .bool (meet a m b o)),AA hw5⟩
 unfold meet;congr 1;simp;omega
theorem rwhole_calls(w:World)(c:Ai)(hc:Ai.ok Any w c):Calls Tryd.prog 20 #[.agg (Ai.arr c)] w fun e w'=>e = .returned (.int .i64 (Gh c).e)∧CE (fun _=>False) w w':=by
 obtain⟨z,hz⟩:∃ z,z=w.heap.size:=⟨_,rfl⟩
 refine Cb (args:=[.agg (Ai.arr c)]) 30 ⟨w,z,[(Ak w)]⟩ Tryd.func20 rfl (by kernel_rfl) (by kernel_rfl) (Em hz) ?_
 have hpl:=hc.Aa.1.len;have hpc:=hc.AX.1.len;have hpch:=hc.Aj.1.len
 refine DI [0] [(0,.agg (Ai.arr c))] ?_
 refine q_c 8 2 [] [[o0,o0],[o0,(a1 1)]] [Qb z] [(1,pt z),(5,i6 c.Frames)] ⟨w,z+1,[(Ak w),(bk z (Ai.arr c) 26)]⟩ rfl ⟨rfl,Ae⟩ ?_
 refine AY 43 #[i6 c.Frames,i6 1,i6 1024] (some 6) (.bool (win c.Frames 1 1024)) (fun w1 hw1=>Gj w1 c.Frames 1 1024) (fun n2 (hn3:z+1≤n2) => ?_)
 refine Dc [1,6] [(1,pt z),(6,.bool (win c.Frames 1 1024))] ?_
 by_cases h4:(win c.Frames 1 1024)=true
 ·have hd5:=DD h4
  refine Bq 5 2 [0] [[(ov (.bool false)),o0],[o0,(a1 1)]] [Value.bool (!(win c.Frames 1 1024))=Value.bool false,Qb z] [(1,pt z),(10,i6 c.Gs)] rfl ⟨by simp[h4],rfl,Ae⟩ ?_
  refine AY 43 #[i6 c.Gs,i6 1,i6 16384] (some 11) (.bool (win c.Gs 1 16384)) (fun w6 hw6=>Gj w6 c.Gs 1 16384) (fun n7 (hn8:n2≤n7) => ?_)
  refine Dc [1,11] [(1,pt z),(11,.bool (win c.Gs 1 16384))] ?_
  by_cases h9:(win c.Gs 1 16384)=true
  ·have hd10:=DD h9
   refine Bq 5 3 [0] [[(ov (.bool false)),o0],[o0,(a1 1),o0]] [Value.bool (!(win c.Gs 1 16384))=Value.bool false,Qb z] [(1,pt z),(16,Ac c.AX.xs.length)] rfl ⟨by simp[h9],rfl,Ae⟩ ?_
   refine AY 43 #[(Ac c.AX.xs.length),i6 1,i6 4] (some 17) (.bool (win (c.AX.xs.length:Int) 1 4)) (fun w11 hw11=>Gj w11 (c.AX.xs.length:Int) 1 4) (fun n12 (hn13:n7≤n12) => ?_)
   refine Dc [1,17] [(1,pt z),(17,.bool (win (c.AX.xs.length:Int) 1 4))] ?_
   by_cases h14:(win (c.AX.xs.length:Int) 1 4)=true
   ·have hd15:=DD h14
    refine Bq 5 3 [0] [[(ov (.bool false)),o0],[o0,(a1 1),o0]] [Value.bool (!(win (c.AX.xs.length:Int) 1 4))=Value.bool false,Qb z] [(1,pt z),(22,Ac c.Aa.xs.length)] rfl ⟨by simp[h14],rfl,Ae⟩ ?_
    refine AY 43 #[(Ac c.Aa.xs.length),i6 1,i6 8] (some 23) (.bool (win (c.Aa.xs.length:Int) 1 8)) (fun w16 hw16=>Gj w16 (c.Aa.xs.length:Int) 1 8) (fun n17 (hn18:n12≤n17) => ?_)
    refine Dc [1,23] [(1,pt z),(23,.bool (win (c.Aa.xs.length:Int) 1 8))] ?_
    by_cases h19:(win (c.Aa.xs.length:Int) 1 8)=true
    ·have hd20:=DD h19
     refine Bq 4 0 [0] [[(ov (.bool false)),o0]] [Value.bool (!(win (c.Aa.xs.length:Int) 1 8))=Value.bool false] [(1,pt z),(19,.bool false)] rfl ⟨by simp[h19],Ae⟩ ?_
     by_cases h21:(16:Int)<(c.Aj.xs.length:Int)
     ·refine Au 9 0 [1] [[o0,(a1 1),o0,oT,o0],[o0]] [Qb z,BT ((c.Aj.xs.length:Int) > 16)] [(2,i6 404)] rfl ⟨rfl,bt,Ae⟩ ?_
      refine Az [] [] (i6 404) Ae ?_
      intro w22 hw22
      have hE:(Gh c).e=404:=by unfold Gh Gm whole2 Gg Gi FH;first | (rw[decide_eq_true (by omega)];simp[AV,Af,AQ,h4,h9,h14,h19]) | (rw[decide_eq_false (by omega)];simp[AV,Af,AQ,h4,h9,h14,h19]) | simp[AV,Af,AQ,h4,h9,h14,h19]
      exact⟨congrArg (fun n=>Ending.returned (i6 n)) hE.symm,AA hw22⟩
     refine Au 12 0 [0] [[o0,(a1 1),o0,oF,o0],[o0]] [Qb z,BF ((c.Aj.xs.length:Int) > 16)] [(2,i6 0)] rfl ⟨rfl,bf,Ae⟩ ?_
     refine Az [] [] (i6 0) Ae ?_
     intro w23 hw23
     have hE:(Gh c).e=0:=by unfold Gh Gm whole2 Gg Gi FH;first | (rw[decide_eq_true (by omega)];simp[AV,Af,AQ,h4,h9,h14,h19]) | (rw[decide_eq_false (by omega)];simp[AV,Af,AQ,h4,h9,h14,h19]) | simp[AV,Af,AQ,h4,h9,h14,h19]
     exact⟨congrArg (fun n=>Ending.returned (i6 n)) hE.symm,AA hw23⟩
    have hd24:=FI h19
    refine Bq 8 0 [1] [[(ov (.bool true)),o0],[o0]] [Value.bool (!(win (c.Aa.xs.length:Int) 1 8))=Value.bool true] [(2,i6 403)] rfl ⟨by simp[h19],Ae⟩ ?_
    refine Az [] [] (i6 403) Ae ?_
    intro w25 hw25
    have hE:(Gh c).e=403:=by unfold Gh Gm whole2 Gg Gi FH;first | (rw[decide_eq_true (by omega)];simp[AV,Af,AQ,h4,h9,h14,h19]) | (rw[decide_eq_false (by omega)];simp[AV,Af,AQ,h4,h9,h14,h19]) | simp[AV,Af,AQ,h4,h9,h14,h19]
    exact⟨congrArg (fun n=>Ending.returned (i6 n)) hE.symm,AA hw25⟩
   have hd26:=FI h14
   refine Bq 8 0 [1] [[(ov (.bool true)),o0],[o0]] [Value.bool (!(win (c.AX.xs.length:Int) 1 4))=Value.bool true] [(2,i6 402)] rfl ⟨by simp[h14],Ae⟩ ?_
   refine Az [] [] (i6 402) Ae ?_
   intro w27 hw27
   have hE:(Gh c).e=402:=by unfold Gh Gm whole2 Gg Gi FH;first | (rw[decide_eq_true (by omega)];simp[AV,Af,AQ,h4,h9,h14]) | (rw[decide_eq_false (by omega)];simp[AV,Af,AQ,h4,h9,h14]) | simp[AV,Af,AQ,h4,h9,h14]
   exact⟨congrArg (fun n=>Ending.returned (i6 n)) hE.symm,AA hw27⟩
  have hd28:=FI h9
  refine Bq 8 0 [1] [[(ov (.bool true)),o0],[o0]] [Value.bool (!(win c.Gs 1 16384))=Value.bool true] [(2,i6 401)] rfl ⟨by simp[h9],Ae⟩ ?_
  refine Az [] [] (i6 401) Ae ?_
  intro w29 hw29
  have hE:(Gh c).e=401:=by unfold Gh Gm whole2 Gg Gi FH;first | (rw[decide_eq_true (by omega)];simp[AV,Af,AQ,h4,h9]) | (rw[decide_eq_false (by omega)];simp[AV,Af,AQ,h4,h9]) | simp[AV,Af,AQ,h4,h9]
  exact⟨congrArg (fun n=>Ending.returned (i6 n)) hE.symm,AA hw29⟩
 have hd30:=FI h4
 refine Bq 8 0 [1] [[(ov (.bool true)),o0],[o0]] [Value.bool (!(win c.Frames 1 1024))=Value.bool true] [(2,i6 400)] rfl ⟨by simp[h4],Ae⟩ ?_
 refine Az [] [] (i6 400) Ae ?_
 intro w31 hw31
 have hE:(Gh c).e=400:=by unfold Gh Gm whole2 Gg Gi FH;first | (rw[decide_eq_true (by omega)];simp[AV,Af,AQ,h4]) | (rw[decide_eq_false (by omega)];simp[AV,Af,AQ,h4]) | simp[AV,Af,AQ,h4]
 exact⟨congrArg (fun n=>Ending.returned (i6 n)) hE.symm,AA hw31⟩
section
variable (k:Nat)
abbrev Ul:=(3,i6 ((k+1:Nat):Int))
end
theorem risName_calls(w:World)(s:ByteArray)(hs:s.size≤140737488351232):Calls Tryd.prog 78 #[.string s] w fun e w'=>e = .returned (.bool (Et s))∧CE (fun _=>False) w w':=by
 obtain⟨z,hz⟩:∃ z,z=w.heap.size:=⟨_,rfl⟩
 refine Cb (args:=[.string s]) 49 ⟨w,z,[(Ak w)]⟩ Tryd.func78 rfl (by kernel_rfl) (by kernel_rfl) (Em hz) ?_
 refine DI [0] [(0,.string s)] ?_
 refine Au 6 0 [] [[o0]] [] [(0,.string s)] rfl Ae ?_
 by_cases h1:s.toList=(⟨#[]⟩:ByteArray).toList
 ·have hz:=str_nil h1
  refine Au 9 0 [1] [[o0,(ov (.bool true)),o0,o0,o0,o0,o0,o0],[o0]] [Value.bool ((s.toList==(⟨#[]⟩:ByteArray).toList))=Value.bool true] [(2,.bool false)] rfl ⟨congrArg (fun t=>Value.bool (t)) (beq_iff_eq.2 h1),Ae⟩ ?_
  refine Az [] [] (.bool false) Ae ?_
  intro w2 hw2
  refine⟨congrArg (fun b=>Ending.returned (Value.bool b)) (?_:false=Et s),AA hw2⟩
  refine Eq.symm ?_
  unfold Et U4 win
  rw[Bool.and_eq_false_iff];left;simp;(try omega)
 have hz:=str_pos h1
 by_cases h3:(16:Int)<(s.size:Int)
 ·refine Au 9 0 [1] [[o0,(ov (.bool false)),o0,o0,o0,oT,o0,o0,o0,o0,o0],[o0]] [Value.bool ((s.toList==(⟨#[]⟩:ByteArray).toList))=Value.bool false,BT ((s.size:Int) > 16)] [(2,.bool false)] rfl ⟨congrArg (fun t=>Value.bool (t)) (beq_eq_false_iff_ne.2 h1),bt,Ae⟩ ?_
  refine Az [] [] (.bool false) Ae ?_
  intro w4 hw4
  refine⟨congrArg (fun b=>Ending.returned (Value.bool b)) (?_:false=Et s),AA hw4⟩
  refine Eq.symm ?_
  unfold Et U4 win
  rw[Bool.and_eq_false_iff];left;simp;(try omega)
 by_cases h5:(((D9 s 0).toNat:Int):Int)<97
 ·refine Au 9 0 [1] [[o0,(ov (.bool false)),o0,o0,o0,oF,o0,o0,o0,⟨.sidx (D9 s 0),none⟩,oT,o0,o0,o0],[o0]] [Value.bool ((s.toList==(⟨#[]⟩:ByteArray).toList))=Value.bool false,BF ((s.size:Int) > 16),0≤(0:Int),s[(0:Int).toNat]? = some (D9 s 0),BT ((((D9 s 0).toNat:Int):Int)<97)] [(2,.bool false)] rfl ⟨congrArg (fun t=>Value.bool (t)) (beq_eq_false_iff_ne.2 h1),bf,(by omega),Ox rfl (by omega),bt,Ae⟩ ?_
  refine Az [] [] (.bool false) Ae ?_
  intro w6 hw6
  refine⟨congrArg (fun b=>Ending.returned (Value.bool b)) (?_:false=Et s),AA hw6⟩
  refine Eq.symm ?_
  unfold Et U4 win
  rw[Bool.and_eq_false_iff];left;simp;(try omega)
 by_cases h7:(122:Int)<((D9 s 0).toNat:Int)
 ·refine Au 9 0 [1] [[o0,(ov (.bool false)),o0,o0,o0,oF,o0,o0,o0,⟨.sidx (D9 s 0),none⟩,oF,o0,o0,o0,⟨.sidx (D9 s 0),none⟩,oT,o0],[o0]] [Value.bool ((s.toList==(⟨#[]⟩:ByteArray).toList))=Value.bool false,BF ((s.size:Int) > 16),0≤(0:Int),s[(0:Int).toNat]? = some (D9 s 0),BF ((((D9 s 0).toNat:Int):Int)<97),0≤(0:Int),s[(0:Int).toNat]? = some (D9 s 0),BT ((((D9 s 0).toNat:Int):Int) > 122)] [(2,.bool false)] rfl ⟨congrArg (fun t=>Value.bool (t)) (beq_eq_false_iff_ne.2 h1),bf,(by omega),Ox rfl (by omega),bf,(by omega),Ox rfl (by omega),bt,Ae⟩ ?_
  refine Az [] [] (.bool false) Ae ?_
  intro w8 hw8
  refine⟨congrArg (fun b=>Ending.returned (Value.bool b)) (?_:false=Et s),AA hw8⟩
  refine Eq.symm ?_
  unfold Et U4 win
  rw[Bool.and_eq_false_iff];left;simp;(try omega)
 refine Au 12 0 [0] [[o0,(ov (.bool false)),o0,o0,o0,oF,o0,o0,o0,⟨.sidx (D9 s 0),none⟩,oF,o0,o0,o0,⟨.sidx (D9 s 0),none⟩,oF,o0],[o0]] [Value.bool ((s.toList==(⟨#[]⟩:ByteArray).toList))=Value.bool false,BF ((s.size:Int) > 16),0≤(0:Int),s[(0:Int).toNat]? = some (D9 s 0),BF ((((D9 s 0).toNat:Int):Int)<97),0≤(0:Int),s[(0:Int).toNat]? = some (D9 s 0),BF ((((D9 s 0).toNat:Int):Int) > 122)] [(0,.string s),(3,i6 0)] rfl ⟨congrArg (fun t=>Value.bool (t)) (beq_eq_false_iff_ne.2 h1),bf,(by omega),Ox rfl (by omega),bf,(by omega),Ox rfl (by omega),bf,Ae⟩ ?_
 refine Du (fun m a w'=>∃ (n10:Nat) (k:Nat),m=s.size - k∧z≤n10∧(k≤s.size)∧(∀ i,i<k→nameB (D9 s i)=true)∧St 49 [(0,.string s),(3,Ac k)] [] ⟨w,n10,[(Ak w)]⟩ a w') (s.size - 0) ?_ ?_
 ·intro a w' hs;exact⟨z,0,rfl,Nat.le_refl _,Nat.zero_le _,fun i hi=>absurd hi (Nat.not_lt_zero i),hs⟩
 rintro m a w' ⟨n10,k,rfl,hn9,hkk,hf,hs⟩
 refine(?_:G Tryd.prog 49 [(0,.string s),(3,Ac k)] [] ⟨w,n10,[(Ak w)]⟩ _ _ _) a w' hs
 clear hs a w'
 refine CB <| CB ?_
 by_cases h11:(k:Int)<(s.size:Int)
 ·refine Au 13 0 [1] [[o0,o0,o0,oT],[o0,o0,⟨.sidx (D9 s k),none⟩,o0]] [BT ((k:Int)<(s.size:Int)),0≤(k:Int),s[(k:Int).toNat]? = some (D9 s k)] [(0,.string s),(3,Ac k),(4,.int .u8 ((D9 s k).toNat:Int))] rfl ⟨bt,(by omega),Ox rfl (by omega),Ae⟩ ?_
  by_cases h12:(((D9 s k).toNat:Int):Int)<97
  ·by_cases h13:(((D9 s k).toNat:Int):Int)<48
   ·by_cases h14:(((D9 s k).toNat:Int):Int)=45
    ·refine Au 9 0 [0] [[o0,oT,o0,o0,o0,o0,oT,o0,o0,o0,o0,o0,oF,o0],[o0,(ov (i6 ((k+1:Nat):Int))),o0]] [BT ((((D9 s k).toNat:Int):Int)<97),BT ((((D9 s k).toNat:Int):Int)<48),NF ((D9 s k).toNat:Int) 45,Wr ((k:Int)+1) (((k+1:Nat):Int))] [(0,.string s),(Ul k)] rfl ⟨bt,bt,nf,BQ,Ae⟩ ?_
     refine BO (fun a w' hs=>⟨s.size - (k+1),by omega,n10,(k+1),rfl,by omega,by omega,EP hf (by unfold nameB win;simp;omega),hs⟩)
    refine Au 9 0 [1] [[o0,oT,o0,o0,o0,o0,oT,o0,o0,o0,o0,o0,oT,o0],[o0]] [BT ((((D9 s k).toNat:Int):Int)<97),BT ((((D9 s k).toNat:Int):Int)<48),NT ((D9 s k).toNat:Int) 45] [(2,.bool false)] rfl ⟨bt,bt,nt,Ae⟩ ?_
    refine Az [] [] (.bool false) Ae ?_
    intro w15 hw15
    refine⟨congrArg (fun b=>Ending.returned (Value.bool b)) (?_:false=Et s),AA hw15⟩
    refine Eq.symm ?_
    unfold Et
    rw[LZ (k:=k) (by omega) (by unfold nameB win;simp;omega),Bool.and_false]
   by_cases h16:(57:Int)<((D9 s k).toNat:Int)
   ·by_cases h17:(((D9 s k).toNat:Int):Int)=45
    ·refine Au 9 0 [0] [[o0,oT,o0,o0,o0,o0,oF,o0,o0,oT,o0,o0,o0,o0,oF,o0],[o0,(ov (i6 ((k+1:Nat):Int))),o0]] [BT ((((D9 s k).toNat:Int):Int)<97),BF ((((D9 s k).toNat:Int):Int)<48),BT ((((D9 s k).toNat:Int):Int) > 57),NF ((D9 s k).toNat:Int) 45,Wr ((k:Int)+1) (((k+1:Nat):Int))] [(0,.string s),(Ul k)] rfl ⟨bt,bf,bt,nf,BQ,Ae⟩ ?_
     refine BO (fun a w' hs=>⟨s.size - (k+1),by omega,n10,(k+1),rfl,by omega,by omega,EP hf (by unfold nameB win;simp;omega),hs⟩)
    refine Au 9 0 [1] [[o0,oT,o0,o0,o0,o0,oF,o0,o0,oT,o0,o0,o0,o0,oT,o0],[o0]] [BT ((((D9 s k).toNat:Int):Int)<97),BF ((((D9 s k).toNat:Int):Int)<48),BT ((((D9 s k).toNat:Int):Int) > 57),NT ((D9 s k).toNat:Int) 45] [(2,.bool false)] rfl ⟨bt,bf,bt,nt,Ae⟩ ?_
    refine Az [] [] (.bool false) Ae ?_
    intro w18 hw18
    refine⟨congrArg (fun b=>Ending.returned (Value.bool b)) (?_:false=Et s),AA hw18⟩
    refine Eq.symm ?_
    unfold Et
    rw[LZ (k:=k) (by omega) (by unfold nameB win;simp;omega),Bool.and_false]
   refine Au 9 0 [0] [[o0,oT,o0,o0,o0,o0,oF,o0,o0,oF,o0,o0,o0,o0],[o0,(ov (i6 ((k+1:Nat):Int))),o0]] [BT ((((D9 s k).toNat:Int):Int)<97),BF ((((D9 s k).toNat:Int):Int)<48),BF ((((D9 s k).toNat:Int):Int) > 57),Wr ((k:Int)+1) (((k+1:Nat):Int))] [(0,.string s),(Ul k)] rfl ⟨bt,bf,bf,BQ,Ae⟩ ?_
   refine BO (fun a w' hs=>⟨s.size - (k+1),by omega,n10,(k+1),rfl,by omega,by omega,EP hf (by unfold nameB win;simp;omega),hs⟩)
  by_cases h19:(122:Int)<((D9 s k).toNat:Int)
  ·by_cases h20:(((D9 s k).toNat:Int):Int)<48
   ·by_cases h21:(((D9 s k).toNat:Int):Int)=45
    ·refine Au 9 0 [0] [[o0,oF,o0,o0,oT,o0,o0,o0,oT,o0,o0,o0,o0,o0,oF,o0],[o0,(ov (i6 ((k+1:Nat):Int))),o0]] [BF ((((D9 s k).toNat:Int):Int)<97),BT ((((D9 s k).toNat:Int):Int) > 122),BT ((((D9 s k).toNat:Int):Int)<48),NF ((D9 s k).toNat:Int) 45,Wr ((k:Int)+1) (((k+1:Nat):Int))] [(0,.string s),(Ul k)] rfl ⟨bf,bt,bt,nf,BQ,Ae⟩ ?_
     refine BO (fun a w' hs=>⟨s.size - (k+1),by omega,n10,(k+1),rfl,by omega,by omega,EP hf (by unfold nameB win;simp;omega),hs⟩)
    refine Au 9 0 [1] [[o0,oF,o0,o0,oT,o0,o0,o0,oT,o0,o0,o0,o0,o0,oT,o0],[o0]] [BF ((((D9 s k).toNat:Int):Int)<97),BT ((((D9 s k).toNat:Int):Int) > 122),BT ((((D9 s k).toNat:Int):Int)<48),NT ((D9 s k).toNat:Int) 45] [(2,.bool false)] rfl ⟨bf,bt,bt,nt,Ae⟩ ?_
    refine Az [] [] (.bool false) Ae ?_
    intro w22 hw22
    refine⟨congrArg (fun b=>Ending.returned (Value.bool b)) (?_:false=Et s),AA hw22⟩
    refine Eq.symm ?_
    unfold Et
    rw[LZ (k:=k) (by omega) (by unfold nameB win;simp;omega),Bool.and_false]
   by_cases h23:(57:Int)<((D9 s k).toNat:Int)
   ·by_cases h24:(((D9 s k).toNat:Int):Int)=45
    ·refine Au 9 0 [0] [[o0,oF,o0,o0,oT,o0,o0,o0,oF,o0,o0,oT,o0,o0,o0,o0,oF,o0],[o0,(ov (i6 ((k+1:Nat):Int))),o0]] [BF ((((D9 s k).toNat:Int):Int)<97),BT ((((D9 s k).toNat:Int):Int) > 122),BF ((((D9 s k).toNat:Int):Int)<48),BT ((((D9 s k).toNat:Int):Int) > 57),NF ((D9 s k).toNat:Int) 45,Wr ((k:Int)+1) (((k+1:Nat):Int))] [(0,.string s),(Ul k)] rfl ⟨bf,bt,bf,bt,nf,BQ,Ae⟩ ?_
     refine BO (fun a w' hs=>⟨s.size - (k+1),by omega,n10,(k+1),rfl,by omega,by omega,EP hf (by unfold nameB win;simp;omega),hs⟩)
    refine Au 9 0 [1] [[o0,oF,o0,o0,oT,o0,o0,o0,oF,o0,o0,oT,o0,o0,o0,o0,oT,o0],[o0]] [BF ((((D9 s k).toNat:Int):Int)<97),BT ((((D9 s k).toNat:Int):Int) > 122),BF ((((D9 s k).toNat:Int):Int)<48),BT ((((D9 s k).toNat:Int):Int) > 57),NT ((D9 s k).toNat:Int) 45] [(2,.bool false)] rfl ⟨bf,bt,bf,bt,nt,Ae⟩ ?_
    refine Az [] [] (.bool false) Ae ?_
    intro w25 hw25
    refine⟨congrArg (fun b=>Ending.returned (Value.bool b)) (?_:false=Et s),AA hw25⟩
    refine Eq.symm ?_
    unfold Et
    rw[LZ (k:=k) (by omega) (by unfold nameB win;simp;omega),Bool.and_false]
   refine Au 9 0 [0] [[o0,oF,o0,o0,oT,o0,o0,o0,oF,o0,o0,oF,o0,o0,o0,o0],[o0,(ov (i6 ((k+1:Nat):Int))),o0]] [BF ((((D9 s k).toNat:Int):Int)<97),BT ((((D9 s k).toNat:Int):Int) > 122),BF ((((D9 s k).toNat:Int):Int)<48),BF ((((D9 s k).toNat:Int):Int) > 57),Wr ((k:Int)+1) (((k+1:Nat):Int))] [(0,.string s),(Ul k)] rfl ⟨bf,bt,bf,bf,BQ,Ae⟩ ?_
   refine BO (fun a w' hs=>⟨s.size - (k+1),by omega,n10,(k+1),rfl,by omega,by omega,EP hf (by unfold nameB win;simp;omega),hs⟩)
  refine Au 9 0 [0] [[o0,oF,o0,o0,oF,o0,o0,o0,o0,o0],[o0,(ov (i6 ((k+1:Nat):Int))),o0]] [BF ((((D9 s k).toNat:Int):Int)<97),BF ((((D9 s k).toNat:Int):Int) > 122),Wr ((k:Int)+1) (((k+1:Nat):Int))] [(0,.string s),(Ul k)] rfl ⟨bf,bf,BQ,Ae⟩ ?_
  refine BO (fun a w' hs=>⟨s.size - (k+1),by omega,n10,(k+1),rfl,by omega,by omega,EP hf (by unfold nameB win;simp;omega),hs⟩)
 refine Au 14 0 [0] [[o0,o0,o0,oF],[o0]] [BF ((k:Int)<(s.size:Int))] [(2,.bool true)] rfl ⟨bf,Ae⟩ ?_
 refine Az [] [] (.bool true) Ae ?_
 intro w26 hw26
 refine⟨congrArg (fun b=>Ending.returned (Value.bool b)) (?_:true=Et s),AA hw26⟩
 refine Eq.symm ?_
 unfold Et
 rw[U8 (fun i hi=>hf i (by omega))]
 unfold U4 win;simp;omega
section
variable (z:Nat)(c:Ai)
abbrev WI:=bk z (Ai.arr c) 26
end
theorem rnamed_calls(w:World)(c:Ai)(hc:Ai.ok Any w c)(p:Nat)(hp:p<c.Aa.xs.length):Calls Tryd.prog 44 #[.agg (Ai.arr c),.int .i64 (p:Int)] w fun e w'=>e = .returned (.bool (AO c p))∧CE (fun _=>False) w w':=by
 obtain⟨z,hz⟩:∃ z,z=w.heap.size:=⟨_,rfl⟩
 refine Cb (args:=[.agg (Ai.arr c),Ac p]) 31 ⟨w,z,[(Ak w)]⟩ Tryd.func44 rfl (by kernel_rfl) (by kernel_rfl) (Em hz) ?_
 have hpl:=hc.Aa.1.len;have hpc:=hc.Aa.1.le
 refine DI [0,1] [(0,.agg (Ai.arr c)),(1,Ac p)] ?_
 refine q_c 10 0 [] [[o0,o0],[o0]] [] [(1,Ac p),(2,pt z),(5,i6 0)] ⟨w,z+1,[(Ak w),(WI z c)]⟩ rfl Ae ?_
 refine Du (fun m a w'=>∃ (n2:Nat) (k:Nat),m=p - k∧z+1≤n2∧(k≤p)∧(∀ i,i<k→(!((Ey c i).Name.toList==(Ey c p).Name.toList))=true)∧St 31 [(1,Ac p),(2,pt z),(5,Ac k)] [] ⟨w,n2,[(Ak w),(WI z c)]⟩ a w') (p - 0) ?_ ?_
 ·intro a w' hs;exact⟨(z+1),0,rfl,Nat.le_refl _,Nat.zero_le _,fun i hi=>absurd hi (Nat.not_lt_zero i),hs⟩
 rintro m a w' ⟨n2,k,rfl,hn1,hkk,hf,hs⟩
 refine(?_:G Tryd.prog 31 [(1,Ac p),(2,pt z),(5,Ac k)] [] ⟨w,n2,[(Ak w),(WI z c)]⟩ _ _ _) a w' hs
 clear hs a w'
 refine CB <| CB ?_
 by_cases h3:(k:Int)<(p:Int)
 ·refine Au 9 0 [1] [[o0,o0,oT]] [BT ((k:Int)<(p:Int))] [(1,Ac p),(2,pt z),(5,Ac k),(8,.bool true)] rfl ⟨bt,Ae⟩ ?_
  obtain⟨b4,o5,ha6,hF8,hc7⟩:=(hc.Aa).1.all (show 0<c.Aa.xs.length by omega)
  replace ha6:c.Aa.a=some ⟨b4,o5,none⟩:=ha6
  have hc9:=hc7 k (show k<c.Aa.xs.length by omega)
  have he10:=(hc.Aa).2 k (show k<c.Aa.xs.length by omega)
  obtain⟨y11,hy11⟩:∃ y_,y_=gd c.Aa.xs k:=⟨_,rfl⟩
  rw[←hy11]at he10 hc9
  have hc12:=hc7 p (show p<c.Aa.xs.length by omega)
  have he13:=(hc.Aa).2 p (show p<c.Aa.xs.length by omega)
  obtain⟨y14,hy14⟩:∃ y_,y_=gd c.Aa.xs p:=⟨_,rfl⟩
  rw[←hy14]at he13 hc12
  by_cases h15:y11.Name.toList=y14.Name.toList
  ·refine DX 13 [0,1] [(Ak w),(WI z c)] rfl rfl ?_
   refine CU [(0,o0),(1,(E8 1 b4 o5 c.Aa)),(2,o0),(3,(oi k)),(4,o0),(5,(oa [.via 0 (.string y11.Name)])),(6,o0),(7,(E8 1 b4 o5 c.Aa)),(8,o0),(9,(oi p)),(10,o0),(11,(oa [.via 0 (.string y14.Name)])),(12,(ov (.bool true)))] [1,2,5,23] [Qb z,DZ b4 o5 c.Aa,CW k,k<c.Aa.xs.length,Ce,Old w b4 (o5+k*8) (.string y11.Name),Qb z,DZ b4 o5 c.Aa,CW p,p<c.Aa.xs.length,Ce,Old w b4 (o5+p*8) (.string y14.Name),Value.bool ((y11.Name.toList==y14.Name.toList))=Value.bool true] (D7 13 0) [(1,Ac p),(2,pt z),(5,Ac k),(23,.bool true)] ⟨rfl,Ea ha6,rfl,(by omega),rfl,Aw (hc9 0 _ rfl),rfl,Ea ha6,rfl,(by omega),rfl,Aw (hc12 0 _ rfl),congrArg (fun t=>Value.bool (t)) (beq_iff_eq.2 h15),Ae⟩ ?_
   refine CO ?_
   refine LX 7 0 [1] [[o0]] [] [(4,.bool false)] rfl Ae ?_
   refine Az [] [] (.bool false) Ae ?_
   intro w16 hw16
   refine⟨congrArg (fun b=>Ending.returned (Value.bool b)) (?_:false=AO c p),AA hw16⟩
   refine Eq.symm ?_
   unfold AO
   rw[LZ (k:=k) (by omega) (by dsimp only[Ey];rw[←hy11,←hy14,beq_iff_eq.2 h15];rfl),Bool.false_and]
  refine DX 13 [0,1] [(Ak w),(WI z c)] rfl rfl ?_
  refine CU [(0,o0),(1,(E8 1 b4 o5 c.Aa)),(2,o0),(3,(oi k)),(4,o0),(5,(oa [.via 0 (.string y11.Name)])),(6,o0),(7,(E8 1 b4 o5 c.Aa)),(8,o0),(9,(oi p)),(10,o0),(11,(oa [.via 0 (.string y14.Name)])),(12,(ov (.bool false)))] [1,2,5,23] [Qb z,DZ b4 o5 c.Aa,CW k,k<c.Aa.xs.length,Ce,Old w b4 (o5+k*8) (.string y11.Name),Qb z,DZ b4 o5 c.Aa,CW p,p<c.Aa.xs.length,Ce,Old w b4 (o5+p*8) (.string y14.Name),Value.bool ((y11.Name.toList==y14.Name.toList))=Value.bool false] (D7 13 0) [(1,Ac p),(2,pt z),(5,Ac k),(23,.bool false)] ⟨rfl,Ea ha6,rfl,(by omega),rfl,Aw (hc9 0 _ rfl),rfl,Ea ha6,rfl,(by omega),rfl,Aw (hc12 0 _ rfl),congrArg (fun t=>Value.bool (t)) (beq_eq_false_iff_ne.2 h15),Ae⟩ ?_
  refine CO ?_
  refine LX 7 0 [0] [[o0,(ov (i6 ((k+1:Nat):Int))),o0]] [Wr ((k:Int)+1) (((k+1:Nat):Int))] [(1,Ac p),(2,pt z),(5,i6 ((k+1:Nat):Int))] rfl ⟨BQ,Ae⟩ ?_
  refine BO (fun a w' hs=>⟨p - (k+1),by omega,n2,(k+1),rfl,by omega,by omega,EP hf (by dsimp only[Ey];rw[←hy11,←hy14,beq_eq_false_iff_ne.2 h15];rfl),hs⟩)
 refine Au 10 0 [0] [[o0,o0,oF]] [BF ((k:Int)<(p:Int))] [(1,Ac p),(2,pt z),(5,Ac k),(8,.bool false)] rfl ⟨bf,Ae⟩ ?_
 obtain⟨b17,o18,ha19,hF21,hc20⟩:=(hc.Aa).1.all (show 0<c.Aa.xs.length by omega)
 replace ha19:c.Aa.a=some ⟨b17,o18,none⟩:=ha19
 have hc22:=hc20 p (show p<c.Aa.xs.length by omega)
 have he23:=(hc.Aa).2 p (show p<c.Aa.xs.length by omega)
 obtain⟨y24,hy24⟩:∃ y_,y_=gd c.Aa.xs p:=⟨_,rfl⟩
 rw[←hy24]at he23 hc22
 refine Au 1 6 [] [[o0,(E8 1 b17 o18 c.Aa),o0,(oi p),o0,(oa [.via 0 (.string y24.Name)])]] [Qb z,DZ b17 o18 c.Aa,CW p,p<c.Aa.xs.length,Ce,Old w b17 (o18+p*8) (.string y24.Name)] [(29,.string y24.Name)] rfl ⟨rfl,Ea ha19,rfl,(by omega),rfl,Aw (hc22 0 _ rfl),Ae⟩ ?_
 refine AY 78 #[.string y24.Name] (some 30) (.bool (Et y24.Name)) (fun w25 hw25=>risName_calls w25 y24.Name he23.Name) (fun n26 (hn27:n2≤n26) => ?_)
 refine Bq 3 0 [] [[o0]] [] [(4,.bool (Et y24.Name))] rfl Ae ?_
 refine Az [] [] (.bool (Et y24.Name)) Ae ?_
 intro w28 hw28
 refine⟨congrArg (fun b=>Ending.returned (Value.bool b)) (?_:Et y24.Name=AO c p),AA hw28⟩
 refine Eq.symm ?_
 unfold AO
 rw[U8 (fun i hi=>hf i (by omega)),Bool.true_and];dsimp only[Ey];rw[←hy24]
section
variable (z:Nat)(x:Ar)
abbrev Vm:=bk z (Ar.arr x) 52
end
theorem rentry_calls(w:World)(x:Ar)(hx:Ar.ok Any w x)(hr:∀ k,k<x.Ah.xs.length→(0≤(gd x.Ah.xs k).Bg∧(gd x.Ah.xs k).Bg≤255)∧(1≤(gd x.Ah.xs k).AL∧(gd x.Ah.xs k).AL≤256)):Calls Tryd.prog 46 #[.agg (Ar.arr x)] w fun e w'=>e = .returned (.bool (Ns x))∧CE (fun _=>False) w w':=by
 obtain⟨z,hz⟩:∃ z,z=w.heap.size:=⟨_,rfl⟩
 refine Cb (args:=[.agg (Ar.arr x)]) 39 ⟨w,z,[(Ak w)]⟩ Tryd.func46 rfl (by kernel_rfl) (by kernel_rfl) (Em hz) ?_
 have hpl:=hx.Ah.1.len;have hxe:(-9223372036854775808:Int)≤x.Entry∧x.Entry≤9223372036854775807:=hx.Entry
 refine DI [0] [(0,.agg (Ar.arr x))] ?_
 refine q_c 7 2 [] [[o0,o0],[o0,(a1 1)]] [Qb z] [(1,pt z),(6,i6 x.Entry)] ⟨w,z+1,[(Ak w),(Vm z x)]⟩ rfl ⟨rfl,Ae⟩ ?_
 refine AY 43 #[i6 x.Entry,i6 0,i6 4095] (some 7) (.bool (win x.Entry 0 4095)) (fun w1 hw1=>Gj w1 x.Entry 0 4095) (fun n2 (hn3:z+1≤n2) => ?_)
 refine Dc [1,7] [(1,pt z),(7,.bool (win x.Entry 0 4095))] ?_
 by_cases h4:(win x.Entry 0 4095)=true
 ·have hd5:=DD h4
  refine Bq 11 0 [0] [[(ov (.bool false))],[o0]] [Value.bool (!(win x.Entry 0 4095))=Value.bool false] [(1,pt z),(3,i6 0)] rfl ⟨by simp[h4],Ae⟩ ?_
  refine Du (fun m a w'=>∃ (n7:Nat) (k:Nat),m=x.Ah.xs.length - k∧n2≤n7∧(k≤x.Ah.xs.length)∧(∀ i,i<k→Rn x i=false)∧St 39 [(1,pt z),(3,Ac k)] [] ⟨w,n7,[(Ak w),(Vm z x)]⟩ a w') (x.Ah.xs.length - 0) ?_ ?_
  ·intro a w' hs;exact⟨n2,0,rfl,Nat.le_refl _,Nat.zero_le _,fun i hi=>absurd hi (Nat.not_lt_zero i),hs⟩
  rintro m a w' ⟨n7,k,rfl,hn6,hkk,hf,hs⟩
  refine(?_:G Tryd.prog 39 [(1,pt z),(3,Ac k)] [] ⟨w,n7,[(Ak w),(Vm z x)]⟩ _ _ _) a w' hs
  clear hs a w'
  have hxw:=DD h4
  refine CB <| CB ?_
  by_cases h8:(k:Int)<(x.Ah.xs.length:Int)
  ·refine Au 9 0 [1] [[o0,o0,(a1 1),o0,oT]] [Qb z,BT ((k:Int)<(x.Ah.xs.length:Int))] [(1,pt z),(3,Ac k),(13,.bool true)] rfl ⟨rfl,bt,Ae⟩ ?_
   obtain⟨b9,o10,ha11,hF13,hc12⟩:=(hx.Ah).1.all (show 0<x.Ah.xs.length by omega)
   replace ha11:x.Ah.a=some ⟨b9,o10,none⟩:=ha11
   have hc14:=hc12 k (show k<x.Ah.xs.length by omega)
   have he15:=(hx.Ah).2 k (show k<x.Ah.xs.length by omega)
   obtain⟨y16,hy16⟩:∃ y_,y_=gd x.Ah.xs k:=⟨_,rfl⟩
   rw[←hy16]at he15 hc14
   have hb17:=hr k (by omega);rw[←hy16]at hb17
   refine q_c 5 11 [] [[o0,(E8 1 b9 o10 x.Ah),o0,(oi k),(ol 0 (BB.arr y16)),o0,(an 4 2)],[o0,(a1 1),(ov (i6 (x.Entry / 16))),o0,(a1 2),o0,(a1 2),o0,(a1 2),(ov (i6 (y16.Bg+y16.AL))),(ov (i6 ((y16.Bg+y16.AL) - 1)))]] [Qb z,DZ b9 o10 x.Ah,CW k,k<x.Ah.xs.length,Ce,GU w b9 (o10+k*4) (BB.arr y16),Qb n7,Qb n7,Qb n7,Qb n7,Qb z,Wr (Int.tdiv (x.Entry) 16) (x.Entry / 16),Qb n7,Qb n7,Qb n7,Wr ((y16.Bg:Int)+y16.AL) (y16.Bg+y16.AL),Wr ((y16.Bg+y16.AL:Int) - 1) ((y16.Bg+y16.AL) - 1)] [(1,pt z),(3,Ac k),(4,pt n7),(23,i6 (x.Entry / 16)),(25,i6 y16.Bg),(31,i6 ((y16.Bg+y16.AL) - 1))] ⟨w,n7+1,[(Ak w),(Vm z x),(bk n7 (BB.arr y16) 103)]⟩ rfl ⟨rfl,Ea ha11,rfl,(by omega),rfl,Ei hc14,rfl,rfl,rfl,rfl,rfl,congrArg (Value.int .i64) (Ob (by omega) (by omega) (by omega)),rfl,rfl,rfl,BQ,BQ,Ae⟩ ?_
   refine AY 43 #[i6 (x.Entry / 16),i6 y16.Bg,i6 ((y16.Bg+y16.AL) - 1)] (some 32) (.bool (win (x.Entry / 16) y16.Bg ((y16.Bg+y16.AL) - 1))) (fun w18 hw18=>Gj w18 (x.Entry / 16) y16.Bg ((y16.Bg+y16.AL) - 1)) (fun n19 (hn20:n7+1≤n19) => ?_)
   refine Dc [1,3,4,32] [(1,pt z),(3,Ac k),(4,pt n7),(32,.bool (win (x.Entry / 16) y16.Bg ((y16.Bg+y16.AL) - 1)))] ?_
   by_cases h21:(win (x.Entry / 16) y16.Bg ((y16.Bg+y16.AL) - 1))=true
   ·have hd22:=DD h21
    by_cases h23:((Yw y16.Il 4):Int)=0
    ·refine Bq 8 0 [0] [[(ov (.bool true)),o0,(a1 2),o0,oF,o0],[o0,(ov (i6 ((k+1:Nat):Int))),o0]] [Value.bool (win (x.Entry / 16) y16.Bg ((y16.Bg+y16.AL) - 1))=Value.bool true,Qb n7,NF (Yw y16.Il 4) 0,Wr ((k:Int)+1) (((k+1:Nat):Int))] [(1,pt z),(3,i6 ((k+1:Nat):Int))] rfl ⟨(congrArg Value.bool h21),rfl,nf,BQ,Ae⟩ ?_
     refine BX [0,1] [(Ak w),(Vm z x)] rfl rfl ?_
     refine BK [1,3] [(1,pt z),(3,i6 ((k+1:Nat):Int))] ?_
     refine BO (fun a w' hs=>⟨x.Ah.xs.length - (k+1),by omega,n19,(k+1),rfl,by omega,by omega,EP hf (by unfold Rn;rw[←hy16];simp[h4,h21,h23]),hs⟩)
    refine Bq 8 0 [1] [[(ov (.bool true)),o0,(a1 2),o0,oT,o0],[o0]] [Value.bool (win (x.Entry / 16) y16.Bg ((y16.Bg+y16.AL) - 1))=Value.bool true,Qb n7,NT (Yw y16.Il 4) 0] [(2,.bool true)] rfl ⟨(congrArg Value.bool h21),rfl,nt,Ae⟩ ?_
    refine Az [] [] (.bool true) Ae ?_
    intro w24 hw24
    refine⟨congrArg (fun b=>Ending.returned (Value.bool b)) (?_:true=Ns x),AA hw24⟩
    refine Eq.symm ?_
    unfold Ns Gt
    rw[range_any (k:=k) (by omega) (by unfold Rn;rw[←hy16];simp[h4,h21,h23])];simp[h4,h21,h23]
   have hd25:=FI h21
   refine Bq 8 0 [0] [[(ov (.bool false)),o0],[o0,(ov (i6 ((k+1:Nat):Int))),o0]] [Value.bool (win (x.Entry / 16) y16.Bg ((y16.Bg+y16.AL) - 1))=Value.bool false,Wr ((k:Int)+1) (((k+1:Nat):Int))] [(1,pt z),(3,i6 ((k+1:Nat):Int))] rfl ⟨(congrArg Value.bool (Bool.eq_false_iff.2 h21)),BQ,Ae⟩ ?_
   refine BX [0,1] [(Ak w),(Vm z x)] rfl rfl ?_
   refine BK [1,3] [(1,pt z),(3,i6 ((k+1:Nat):Int))] ?_
   refine BO (fun a w' hs=>⟨x.Ah.xs.length - (k+1),by omega,n19,(k+1),rfl,by omega,by omega,EP hf (by unfold Rn;rw[←hy16];simp[h4,h21]),hs⟩)
  refine Au 14 0 [0] [[o0,o0,(a1 1),o0,oF],[o0]] [Qb z,BF ((k:Int)<(x.Ah.xs.length:Int))] [(2,.bool false)] rfl ⟨rfl,bf,Ae⟩ ?_
  refine Az [] [] (.bool false) Ae ?_
  intro w26 hw26
  refine⟨congrArg (fun b=>Ending.returned (Value.bool b)) (?_:false=Ns x),AA hw26⟩
  refine Eq.symm ?_
  unfold Ns Gt
  first | (rw[Gu (fun i hi=>hf i (by omega)),Bool.and_false]) | simp[h4]
 have hd27:=FI h4
 refine Bq 8 0 [1] [[(ov (.bool true))],[o0]] [Value.bool (!(win x.Entry 0 4095))=Value.bool true] [(2,.bool false)] rfl ⟨by simp[h4],Ae⟩ ?_
 refine Az [] [] (.bool false) Ae ?_
 intro w28 hw28
 refine⟨congrArg (fun b=>Ending.returned (Value.bool b)) (?_:false=Ns x),AA hw28⟩
 refine Eq.symm ?_
 unfold Ns Gt
 first | (rw[Gu (fun i hi=>hf i (by omega)),Bool.and_false]) | simp[h4]
section
variable (z:Nat)(c:Ai)
abbrev Wj:=bk z (Ai.arr c) 26
end
theorem rsplit_calls(w:World)(c:Ai)(hc:Ai.ok Any w c)(k0:Nat)(hk0:k0<c.AX.xs.length)(p:Int)(hp1 : -1≤p):Calls Tryd.prog 48 #[.agg (Ai.arr c),.int .i64 (k0:Int),.int .i64 p] w fun e w'=>e = .returned (.bool (Ik c k0 p))∧CE (fun _=>False) w w':=by
 obtain⟨z,hz⟩:∃ z,z=w.heap.size:=⟨_,rfl⟩
 refine Cb (args:=[.agg (Ai.arr c),Ac k0,i6 p]) 39 ⟨w,z,[(Ak w)]⟩ Tryd.func48 rfl (by kernel_rfl) (by kernel_rfl) (Em hz) ?_
 have hpl:=hc.AX.1.len;have hpc:=hc.AX.1.le
 refine DI [0,1,2] [(0,.agg (Ai.arr c)),(1,Ac k0),(2,i6 p)] ?_
 refine q_c 10 0 [] [[o0,o0],[o0]] [] [(1,Ac k0),(2,i6 p),(3,pt z),(7,i6 0)] ⟨w,z+1,[(Ak w),(Wj z c)]⟩ rfl Ae ?_
 refine Du (fun m a w'=>∃ (n2:Nat) (k:Nat),m=k0 - k∧z+1≤n2∧(k≤k0)∧(∀ i,i<k→(List.range (DT c i).xs.length).any (fun n => !decide (p = -1)&&decide ((gd (DT c i).xs n).Partition=p))=false)∧St 39 [(1,Ac k0),(2,i6 p),(3,pt z),(7,Ac k)] [] ⟨w,n2,[(Ak w),(Wj z c)]⟩ a w') (k0 - 0) ?_ ?_
 ·intro a w' hs;exact⟨(z+1),0,rfl,Nat.le_refl _,Nat.zero_le _,fun i hi=>absurd hi (Nat.not_lt_zero i),hs⟩
 rintro m a w' ⟨n2,k,rfl,hn1,hkk,hf,hs⟩
 refine(?_:G Tryd.prog 39 [(1,Ac k0),(2,i6 p),(3,pt z),(7,Ac k)] [] ⟨w,n2,[(Ak w),(Wj z c)]⟩ _ _ _) a w' hs
 clear hs a w'
 refine CB <| CB ?_
 by_cases h3:(k:Int)<(k0:Int)
 ·refine Au 13 0 [1] [[o0,o0,oT],[o0]] [BT ((k:Int)<(k0:Int))] [(1,Ac k0),(2,i6 p),(3,pt z),(7,Ac k),(8,i6 0)] rfl ⟨bt,Ae⟩ ?_
  refine Du (fun m a w'=>∃ (n5:Nat) (j:Nat),m=(gd c.AX.xs k).xs.length - j∧n2≤n5∧(j≤(gd c.AX.xs k).xs.length)∧(∀ i,i<j→(!decide (p = -1)&&decide ((gd (DT c k).xs i).Partition=p))=false)∧St 39 [(1,Ac k0),(2,i6 p),(3,pt z),(7,Ac k),(8,Ac j)] [] ⟨w,n5,[(Ak w),(Wj z c)]⟩ a w') ((gd c.AX.xs k).xs.length - 0) ?_ ?_
  ·intro a w' hs;exact⟨n2,0,rfl,Nat.le_refl _,Nat.zero_le _,fun i hi=>absurd hi (Nat.not_lt_zero i),hs⟩
  rintro m a w' ⟨n5,j,rfl,hn4,hkj,hg,hs⟩
  refine(?_:G Tryd.prog 39 [(1,Ac k0),(2,i6 p),(3,pt z),(7,Ac k),(8,Ac j)] [] ⟨w,n5,[(Ak w),(Wj z c)]⟩ _ _ _) a w' hs
  clear hs a w'
  refine CB <| CB ?_
  obtain⟨b6,o7,ha8,hF10,hc9⟩:=(hc.AX).1.all (show 0<c.AX.xs.length by omega)
  replace ha8:c.AX.a=some ⟨b6,o7,none⟩:=ha8
  have hc11:=hc9 k (show k<c.AX.xs.length by omega)
  have he12:=(hc.AX).2 k (show k<c.AX.xs.length by omega)
  obtain⟨y13,hy13⟩:∃ y_,y_=gd c.AX.xs k:=⟨_,rfl⟩
  rw[←hy13]at he12 hc11
  have hley13:y13.xs.length=(gd c.AX.xs k).xs.length:=(by rw[hy13]);have hyly13:=he12.1.len
  by_cases h14:(j:Int)<(y13.xs.length:Int)
  ·refine Au 9 0 [1] [[o0,o0,(E8 1 b6 o7 c.AX),o0,(oi k),(oa [.via 0 (.slice y13.a y13.xs.length y13.cap)]),o0,oT]] [Qb z,DZ b6 o7 c.AX,CW k,k<c.AX.xs.length,Ce,Old w b6 (o7+k) (.slice y13.a y13.xs.length y13.cap),BT ((j:Int)<(y13.xs.length:Int))] [(1,Ac k0),(2,i6 p),(3,pt z),(7,Ac k),(8,Ac j),(21,.bool true)] rfl ⟨rfl,Ea ha8,rfl,(by omega),rfl,Aw (hc11 0 _ rfl),bt,Ae⟩ ?_
   by_cases h15:(p:Int) = -1
   ·refine Au 9 0 [0] [[o0,oF,o0,o0],[o0,(ov (i6 ((j+1:Nat):Int))),o0]] [NF p (-1),Wr ((j:Int)+1) (((j+1:Nat):Int))] [(1,Ac k0),(2,i6 p),(3,pt z),(7,Ac k),(8,i6 ((j+1:Nat):Int))] rfl ⟨nf,BQ,Ae⟩ ?_
    refine BO (fun a w' hs=>⟨(gd c.AX.xs k).xs.length - (j+1),by omega,n5,(j+1),rfl,by omega,by omega,EP hg (by simp;omega),hs⟩)
   obtain⟨b16,o17,ha18,hF20,hc19⟩:=(he12).1.all (show 0<y13.xs.length by omega)
   replace ha18:y13.a=some ⟨b16,o17,none⟩:=ha18
   have hc21:=hc19 j (show j<y13.xs.length by omega)
   have he22:=(he12).2 j (show j<y13.xs.length by omega)
   obtain⟨y23,hy23⟩:∃ y_,y_=gd y13.xs j:=⟨_,rfl⟩
   rw[←hy23]at he22 hc21
   by_cases h24:(y23.Partition:Int)=p
   ·refine Au 9 0 [1] [[o0,oT,o0,o0,(E8 1 b6 o7 c.AX),o0,(oi k),⟨.auto [.via 0 (.slice y13.a y13.xs.length y13.cap)],some (.slice (some ⟨b16,o17,none⟩) y13.xs.length y13.cap)⟩,o0,(oi j),o0,(oa [.via 0 (i6 y23.Partition)]),o0,oT,o0],[o0]] [NT p (-1),Qb z,DZ b6 o7 c.AX,CW k,k<c.AX.xs.length,Ce,Old w b6 (o7+k) (.slice y13.a y13.xs.length y13.cap),DZ b16 o17 y13,CW j,j<y13.xs.length,Ce,Old w b16 (o17+j*3) (i6 y23.Partition),ET y23.Partition p] [(6,.bool true)] rfl ⟨nt,rfl,Ea ha8,rfl,(by omega),rfl,Aw (hc11 0 _ rfl),Ea ha18,rfl,(by omega),rfl,Aw (hc21 0 _ rfl),et,Ae⟩ ?_
    refine Az [] [] (.bool true) Ae ?_
    intro w25 hw25
    refine⟨congrArg (fun b=>Ending.returned (Value.bool b)) (?_:true=Ik c k0 p),AA hw25⟩
    refine Eq.symm ((split_ref hp1).trans (range_any (k:=k) (by omega) (range_any (k:=j) (by dsimp only[DT];omega) ?_)))
    have e:gd (DT c k).xs j=y23:=(by rw[hy23,hy13]);simp only[e];simp;omega
   refine Au 9 0 [0] [[o0,oT,o0,o0,(E8 1 b6 o7 c.AX),o0,(oi k),⟨.auto [.via 0 (.slice y13.a y13.xs.length y13.cap)],some (.slice (some ⟨b16,o17,none⟩) y13.xs.length y13.cap)⟩,o0,(oi j),o0,(oa [.via 0 (i6 y23.Partition)]),o0,oF,o0],[o0,(ov (i6 ((j+1:Nat):Int))),o0]] [NT p (-1),Qb z,DZ b6 o7 c.AX,CW k,k<c.AX.xs.length,Ce,Old w b6 (o7+k) (.slice y13.a y13.xs.length y13.cap),DZ b16 o17 y13,CW j,j<y13.xs.length,Ce,Old w b16 (o17+j*3) (i6 y23.Partition),EF y23.Partition p,Wr ((j:Int)+1) (((j+1:Nat):Int))] [(1,Ac k0),(2,i6 p),(3,pt z),(7,Ac k),(8,i6 ((j+1:Nat):Int))] rfl ⟨nt,rfl,Ea ha8,rfl,(by omega),rfl,Aw (hc11 0 _ rfl),Ea ha18,rfl,(by omega),rfl,Aw (hc21 0 _ rfl),ef,BQ,Ae⟩ ?_
   refine BO (fun a w' hs=>⟨(gd c.AX.xs k).xs.length - (j+1),by omega,n5,(j+1),rfl,by omega,by omega,EP hg (by have e:gd (DT c k).xs j=y23:=(by rw[hy23,hy13]);simp only[e];simp;omega),hs⟩)
  refine Au 12 0 [0] [[o0,o0,(E8 1 b6 o7 c.AX),o0,(oi k),(oa [.via 0 (.slice y13.a y13.xs.length y13.cap)]),o0,oF],[o0,(ov (i6 ((k+1:Nat):Int))),o0]] [Qb z,DZ b6 o7 c.AX,CW k,k<c.AX.xs.length,Ce,Old w b6 (o7+k) (.slice y13.a y13.xs.length y13.cap),BF ((j:Int)<(y13.xs.length:Int)),Wr ((k:Int)+1) (((k+1:Nat):Int))] [(1,Ac k0),(2,i6 p),(3,pt z),(7,i6 ((k+1:Nat):Int))] rfl ⟨rfl,Ea ha8,rfl,(by omega),rfl,Aw (hc11 0 _ rfl),bf,BQ,Ae⟩ ?_
  refine BO (fun a w' hs=>⟨k0 - (k+1),by omega,n5,(k+1),rfl,by omega,by omega,EP hf (Gu (fun i hi=>hg i (by dsimp only[DT]at hi;omega))),hs⟩)
 refine Au 14 0 [0] [[o0,o0,oF],[o0]] [BF ((k:Int)<(k0:Int))] [(6,.bool false)] rfl ⟨bf,Ae⟩ ?_
 refine Az [] [] (.bool false) Ae ?_
 intro w26 hw26
 refine⟨congrArg (fun b=>Ending.returned (Value.bool b)) (?_:false=Ik c k0 p),AA hw26⟩
 exact((split_ref hp1).trans (Gu (fun i hi=>hf i (by omega)))).symm
section
variable (z:Nat)(c:Ai)(h:Int)(i j:Nat)
abbrev Jy:=bk z (Ai.arr c) 26
abbrev JW:=(6,i6 (((JH (Fv h) c.Aa.xs i+Nj (Fv h) (gd c.Aa.xs i).Ap.xs j)+1:Nat):Int))
abbrev IZ:=(7,i6 (((JH (F6 h) c.Aa.xs i+Nj (F6 h) (gd c.Aa.xs i).Ap.xs j)+1:Nat):Int))
abbrev Hl:=(6,i6 (((JH (Fv h) c.Aa.xs i+Nj (Fv h) (gd c.Aa.xs i).Ap.xs j):Nat):Int))
abbrev MJ:=(7,i6 (((JH (F6 h) c.Aa.xs i+Nj (F6 h) (gd c.Aa.xs i).Ap.xs j):Nat):Int))
abbrev Qa:=(9,i6 ((j+1:Nat):Int))
end
theorem NE(w:World)(c:Ai)(hc:Ai.ok Any w c)(h:Int)(hm:c.Aa.xs.length≤1024)(hq:∀ p,p<c.Aa.xs.length→(gd c.Aa.xs p).Ap.xs.length≤1024):Calls Tryd.prog 47 #[.agg (Ai.arr c),.int .i64 h] w fun e w'=>e = .returned (.tuple #[.int .i64 (I9 c h:Nat),.int .i64 (Bj c h:Nat)])∧CE (fun _=>False) w w':=by
 obtain⟨z,hz⟩:∃ z,z=w.heap.size:=⟨_,rfl⟩
 refine Cb (args:=[.agg (Ai.arr c),i6 h]) 61 ⟨w,z,[(Ak w)]⟩ Tryd.func47 rfl (by kernel_rfl) (by kernel_rfl) (Em hz) ?_
 have hpl:=hc.Aa.1.len
 refine DI [0,1] [(0,.agg (Ai.arr c)),(1,i6 h)] ?_
 refine q_c 18 0 [] [[o0,o0,o0],[o0],[o0],[o0]] [] [(1,i6 h),(2,pt z),(6,i6 0),(7,i6 0),(8,i6 0)] ⟨w,z+1,[(Ak w),(Jy z c)]⟩ rfl Ae ?_
 refine Du (fun m a w'=>∃ (n2:Nat) (i:Nat),m=c.Aa.xs.length - i∧z+1≤n2∧(i≤c.Aa.xs.length)∧St 61 [(1,i6 h),(2,pt z),(6,i6 ((JH (Fv h) c.Aa.xs i:Nat):Int)),(7,i6 ((JH (F6 h) c.Aa.xs i:Nat):Int)),(8,Ac i)] [] ⟨w,n2,[(Ak w),(Jy z c)]⟩ a w') (c.Aa.xs.length - 0) ?_ ?_
 ·intro a w' hs;exact⟨(z+1),0,rfl,Nat.le_refl _,Nat.zero_le _,hs⟩
 rintro m a w' ⟨n2,i,rfl,hn1,hki,hs⟩
 refine(?_:G Tryd.prog 61 [(1,i6 h),(2,pt z),(6,i6 ((JH (Fv h) c.Aa.xs i:Nat):Int)),(7,i6 ((JH (F6 h) c.Aa.xs i:Nat):Int)),(8,Ac i)] [] ⟨w,n2,[(Ak w),(Jy z c)]⟩ _ _ _) a w' hs
 clear hs a w'
 have bb4:=WX (f:=Fv h) (n:=i) (m:=1024) (fun p hp=>hq p (by omega))
 have bb5:=WX (f:=F6 h) (n:=i) (m:=1024) (fun p hp=>hq p (by omega))
 refine CB <| CB ?_
 by_cases h3:(i:Int)<(c.Aa.xs.length:Int)
 ·refine Au 13 0 [1] [[o0,o0,(a1 1),o0,oT],[o0]] [Qb z,BT ((i:Int)<(c.Aa.xs.length:Int))] [(1,i6 h),(2,pt z),(6,i6 ((JH (Fv h) c.Aa.xs i:Nat):Int)),(7,i6 ((JH (F6 h) c.Aa.xs i:Nat):Int)),(8,Ac i),(9,i6 0)] rfl ⟨rfl,bt,Ae⟩ ?_
  refine Du (fun m a w'=>∃ (n5:Nat) (j:Nat),m=(gd c.Aa.xs i).Ap.xs.length - j∧n2≤n5∧(j≤(gd c.Aa.xs i).Ap.xs.length)∧St 61 [(1,i6 h),(2,pt z),(Hl c h i j),(MJ c h i j),(8,Ac i),(9,Ac j)] [] ⟨w,n5,[(Ak w),(Jy z c)]⟩ a w') ((gd c.Aa.xs i).Ap.xs.length - 0) ?_ ?_
  ·intro a w' hs;exact⟨n2,0,rfl,Nat.le_refl _,Nat.zero_le _,hs⟩
  rintro m a w' ⟨n5,j,rfl,hn4,hkj,hs⟩
  refine(?_:G Tryd.prog 61 [(1,i6 h),(2,pt z),(Hl c h i j),(MJ c h i j),(8,Ac i),(9,Ac j)] [] ⟨w,n5,[(Ak w),(Jy z c)]⟩ _ _ _) a w' hs
  clear hs a w'
  have c4:=YU (Fv h) (gd c.Aa.xs i).Ap.xs j
  have c5:=YU (F6 h) (gd c.Aa.xs i).Ap.xs j
  have hyl:=hq i (by omega)
  refine CB <| CB ?_
  obtain⟨b6,o7,ha8,hF10,hc9⟩:=(hc.Aa).1.all (show 0<c.Aa.xs.length by omega)
  replace ha8:c.Aa.a=some ⟨b6,o7,none⟩:=ha8
  have hc11:=hc9 i (show i<c.Aa.xs.length by omega)
  have he12:=(hc.Aa).2 i (show i<c.Aa.xs.length by omega)
  obtain⟨y13,hy13⟩:∃ y_,y_=gd c.Aa.xs i:=⟨_,rfl⟩
  rw[←hy13]at he12 hc11
  have hley13:y13.Ap.xs.length=(gd c.Aa.xs i).Ap.xs.length:=(by rw[hy13]);have hyly13:=he12.Ap.1.len
  by_cases h14:(j:Int)<(y13.Ap.xs.length:Int)
  ·refine Au 9 0 [1] [[o0,o0,(E8 1 b6 o7 c.Aa),o0,(oi i),o0,(oa [.via 0 (.slice y13.Ap.a y13.Ap.xs.length y13.Ap.cap)]),o0,oT]] [Qb z,DZ b6 o7 c.Aa,CW i,i<c.Aa.xs.length,Ce,Old w b6 (o7+i*8+7) (.slice y13.Ap.a y13.Ap.xs.length y13.Ap.cap),BT ((j:Int)<(y13.Ap.xs.length:Int))] [(1,i6 h),(2,pt z),(Hl c h i j),(MJ c h i j),(8,Ac i),(9,Ac j),(26,.bool true)] rfl ⟨rfl,Ea ha8,rfl,(by omega),rfl,Aw (hc11 7 _ rfl),bt,Ae⟩ ?_
   obtain⟨b15,o16,ha17,hF19,hc18⟩:=(he12.Ap).1.all (show 0<y13.Ap.xs.length by omega)
   replace ha17:y13.Ap.a=some ⟨b15,o16,none⟩:=ha17
   have hc20:=hc18 j (show j<y13.Ap.xs.length by omega)
   have he21:=(he12.Ap).2 j (show j<y13.Ap.xs.length by omega)
   obtain⟨y22,hy22⟩:∃ y_,y_=gd y13.Ap.xs j:=⟨_,rfl⟩
   rw[←hy22]at he21 hc20
   refine q_c 5 0 [] [[o0,(E8 1 b6 o7 c.Aa),o0,(oi i),o0,⟨.auto [.via 0 (.slice y13.Ap.a y13.Ap.xs.length y13.Ap.cap)],some (.slice (some ⟨b15,o16,none⟩) y13.Ap.xs.length y13.Ap.cap)⟩,o0,(oi j),(ol 0 (Ed.arr y22)),o0,(an 2 2)]] [Qb z,DZ b6 o7 c.Aa,CW i,i<c.Aa.xs.length,Ce,Old w b6 (o7+i*8+7) (.slice y13.Ap.a y13.Ap.xs.length y13.Ap.cap),DZ b15 o16 y13.Ap,CW j,j<y13.Ap.xs.length,Ce,GU w b15 (o16+j*2) (Ed.arr y22),Qb n5,Qb n5] [(1,i6 h),(2,pt z),(Hl c h i j),(MJ c h i j),(8,Ac i),(9,Ac j),(10,pt n5)] ⟨w,n5+1,[(Ak w),(Jy z c),(bk n5 (Ed.arr y22) 127)]⟩ rfl ⟨rfl,Ea ha8,rfl,(by omega),rfl,Aw (hc11 7 _ rfl),Ea ha17,rfl,(by omega),rfl,Ei hc20,rfl,rfl,Ae⟩ ?_
   by_cases h23:(y22.Channel:Int)=h
   ·refine Au 3 0 [] [[o0,(a1 2),o0,oT,o0,o0,(a1 2),o0]] [Qb n5,ET y22.Channel h,Qb n5] [(1,i6 h),(2,pt z),(Hl c h i j),(MJ c h i j),(8,Ac i),(9,Ac j),(10,pt n5),(45,.bool y22.Source)] rfl ⟨rfl,et,rfl,Ae⟩ ?_
    by_cases h24:y22.Source=true
    ·refine Au 14 0 [3,0] [[o0,(ov (i6 (((JH (Fv h) c.Aa.xs i+Nj (Fv h) (gd c.Aa.xs i).Ap.xs j)+1:Nat):Int))),o0],[o0,(a1 2),o0,oT,o0,o0,(a1 2),(ov (.bool false)),o0],[o0,(ov (i6 ((j+1:Nat):Int))),o0]] [Value.bool y22.Source=Value.bool true,Wr (((((JH (Fv h) c.Aa.xs i+Nj (Fv h) (gd c.Aa.xs i).Ap.xs j):Nat):Int):Int)+1) ((((JH (Fv h) c.Aa.xs i+Nj (Fv h) (gd c.Aa.xs i).Ap.xs j)+1:Nat):Int)),Qb n5,ET y22.Channel h,Qb n5,Value.bool (!y22.Source)=Value.bool false,Wr ((j:Int)+1) (((j+1:Nat):Int))] [(1,i6 h),(2,pt z),(JW c h i j),(MJ c h i j),(8,Ac i),(Qa j)] rfl ⟨(congrArg Value.bool h24),BQ,rfl,et,rfl,by simp[h24],BQ,Ae⟩ ?_
     refine BX [0,1] [(Ak w),(Jy z c)] rfl rfl ?_
     have e0:gd (gd c.Aa.xs i).Ap.xs j=y22:=(by rw[hy22,hy13])
     have e4:=LG (Fv h) (gd c.Aa.xs i).Ap.xs (n:=j) (by omega);rw[e0]at e4
     have e5:=LG (F6 h) (gd c.Aa.xs i).Ap.xs (n:=j) (by omega);rw[e0]at e5
     simp[Fv,h23,h24]at e4
     simp[F6,h23,h24]at e5
     refine BK [1,2,6,7,8,9] [(1,i6 h),(2,pt z),(JW c h i j),(MJ c h i j),(8,Ac i),(Qa j)] ?_
     refine BO (fun a w' hs=>⟨(gd c.Aa.xs i).Ap.xs.length - (j+1),by omega,(n5+1),(j+1),rfl,by omega,by omega,(by(try dsimp only[Jy,JW,Hl,MJ,Qa]at hs ⊢);rw[e4,e5];exact hs)⟩)
    refine Au 14 0 [2,1] [[o0,(a1 2),o0,oT,o0,o0,(a1 2),(ov (.bool true)),o0],[o0,(ov (i6 (((JH (F6 h) c.Aa.xs i+Nj (F6 h) (gd c.Aa.xs i).Ap.xs j)+1:Nat):Int))),o0],[o0,(ov (i6 ((j+1:Nat):Int))),o0]] [Value.bool y22.Source=Value.bool false,Qb n5,ET y22.Channel h,Qb n5,Value.bool (!y22.Source)=Value.bool true,Wr (((((JH (F6 h) c.Aa.xs i+Nj (F6 h) (gd c.Aa.xs i).Ap.xs j):Nat):Int):Int)+1) ((((JH (F6 h) c.Aa.xs i+Nj (F6 h) (gd c.Aa.xs i).Ap.xs j)+1:Nat):Int)),Wr ((j:Int)+1) (((j+1:Nat):Int))] [(1,i6 h),(2,pt z),(Hl c h i j),(IZ c h i j),(8,Ac i),(Qa j)] rfl ⟨(congrArg Value.bool (Bool.eq_false_iff.2 h24)),rfl,et,rfl,by simp[h24],BQ,BQ,Ae⟩ ?_
    refine BX [0,1] [(Ak w),(Jy z c)] rfl rfl ?_
    have e0:gd (gd c.Aa.xs i).Ap.xs j=y22:=(by rw[hy22,hy13])
    have e4:=LG (Fv h) (gd c.Aa.xs i).Ap.xs (n:=j) (by omega);rw[e0]at e4
    have e5:=LG (F6 h) (gd c.Aa.xs i).Ap.xs (n:=j) (by omega);rw[e0]at e5
    simp[Fv,h23,h24]at e4
    simp[F6,h23,h24]at e5
    refine BK [1,2,6,7,8,9] [(1,i6 h),(2,pt z),(Hl c h i j),(IZ c h i j),(8,Ac i),(Qa j)] ?_
    refine BO (fun a w' hs=>⟨(gd c.Aa.xs i).Ap.xs.length - (j+1),by omega,(n5+1),(j+1),rfl,by omega,by omega,(by(try dsimp only[Jy,JW,IZ,Hl,MJ,Qa]at hs ⊢);rw[e4,e5];exact hs)⟩)
   refine Au 16 0 [0,0] [[o0,(a1 2),o0,oF,o0,o0],[o0,(a1 2),o0,oF,o0,o0],[o0,(ov (i6 ((j+1:Nat):Int))),o0]] [Qb n5,EF y22.Channel h,Qb n5,EF y22.Channel h,Wr ((j:Int)+1) (((j+1:Nat):Int))] [(1,i6 h),(2,pt z),(Hl c h i j),(MJ c h i j),(8,Ac i),(Qa j)] rfl ⟨rfl,ef,rfl,ef,BQ,Ae⟩ ?_
   refine BX [0,1] [(Ak w),(Jy z c)] rfl rfl ?_
   have e0:gd (gd c.Aa.xs i).Ap.xs j=y22:=(by rw[hy22,hy13])
   have e4:=LG (Fv h) (gd c.Aa.xs i).Ap.xs (n:=j) (by omega);rw[e0]at e4
   have e5:=LG (F6 h) (gd c.Aa.xs i).Ap.xs (n:=j) (by omega);rw[e0]at e5
   simp[Fv,h23]at e4
   simp[F6,h23]at e5
   refine BK [1,2,6,7,8,9] [(1,i6 h),(2,pt z),(Hl c h i j),(MJ c h i j),(8,Ac i),(Qa j)] ?_
   refine BO (fun a w' hs=>⟨(gd c.Aa.xs i).Ap.xs.length - (j+1),by omega,(n5+1),(j+1),rfl,by omega,by omega,(by(try dsimp only[Jy,JW,IZ,Hl,MJ,Qa]at hs ⊢);rw[e4,e5];exact hs)⟩)
  refine Au 12 0 [0] [[o0,o0,(E8 1 b6 o7 c.Aa),o0,(oi i),o0,(oa [.via 0 (.slice y13.Ap.a y13.Ap.xs.length y13.Ap.cap)]),o0,oF],[o0,(ov (i6 ((i+1:Nat):Int))),o0]] [Qb z,DZ b6 o7 c.Aa,CW i,i<c.Aa.xs.length,Ce,Old w b6 (o7+i*8+7) (.slice y13.Ap.a y13.Ap.xs.length y13.Ap.cap),BF ((j:Int)<(y13.Ap.xs.length:Int)),Wr ((i:Int)+1) (((i+1:Nat):Int))] [(1,i6 h),(2,pt z),(Hl c h i j),(MJ c h i j),(8,i6 ((i+1:Nat):Int))] rfl ⟨rfl,Ea ha8,rfl,(by omega),rfl,Aw (hc11 7 _ rfl),bf,BQ,Ae⟩ ?_
  have e4:=Us (Fv h) c.Aa.xs i
  have e5:=Us (F6 h) c.Aa.xs i
  refine BK [1,2,6,7,8] [(1,i6 h),(2,pt z),(Hl c h i j),(MJ c h i j),(8,i6 ((i+1:Nat):Int))] ?_
  refine BO (fun a w' hs=>⟨c.Aa.xs.length - (i+1),by omega,n5,(i+1),rfl,by omega,by omega,(by(try dsimp only[Jy,Hl,MJ,Qa]at hs ⊢);rw[X3 (Fv h) _ (n:=j) (by omega),X3 (F6 h) _ (n:=j) (by omega),←e4,←e5]at hs;exact hs)⟩)
 refine Au 14 0 [0] [[o0,o0,(a1 1),o0,oF],[o0,o0,o0,o0]] [Qb z,BF ((i:Int)<(c.Aa.xs.length:Int))] [(4,i6 ((JH (Fv h) c.Aa.xs i:Nat):Int)),(5,i6 ((JH (F6 h) c.Aa.xs i:Nat):Int))] rfl ⟨rfl,bf,Ae⟩ ?_
 refine Az [] [] (.tuple #[i6 ((JH (Fv h) c.Aa.xs i:Nat):Int),i6 ((JH (F6 h) c.Aa.xs i:Nat):Int)]) Ae ?_
 intro w25 hw25
 exact⟨by rw[show i=c.Aa.xs.length from by omega];rfl,AA hw25⟩
theorem rright_calls(w:World)(c:Ai)(hc:Ai.ok Any w c)(hF:1≤c.Frames∧c.Frames≤1024)(g:BB)(hg:BB.ok Any w g):Calls Tryd.prog 79 #[.agg (Ai.arr c),.agg (BB.arr g)] w fun e w'=>e = .returned (.bool (Js c g))∧CE (fun _=>False) w w':=by
 obtain⟨z,hz⟩:∃ z,z=w.heap.size:=⟨_,rfl⟩
 refine Cb (args:=[.agg (Ai.arr c),.agg (BB.arr g)]) 36 ⟨w,z,[(Ak w)]⟩ Tryd.func79 rfl (by kernel_rfl) (by kernel_rfl) (Em hz) ?_
 have hgf0:(-9223372036854775808:Int)≤g.Frame∧g.Frame≤9223372036854775807:=hg.Frame
 refine DI [0,1] [(0,.agg (Ai.arr c)),(1,.agg (BB.arr g))] ?_
 refine q_c 7 2 [] [[o0,o0,o0],[o0,(a1 2)]] [Qb (z+1)] [(2,pt z),(3,pt (z+1)),(6,i6 g.Bg)] ⟨w,z+2,[(Ak w),(bk z (Ai.arr c) 26),(bk (z+1) (BB.arr g) 103)]⟩ rfl ⟨rfl,Ae⟩ ?_
 refine AY 43 #[i6 g.Bg,i6 0,i6 255] (some 7) (.bool (win g.Bg 0 255)) (fun w1 hw1=>Gj w1 g.Bg 0 255) (fun n2 (hn3:z+2≤n2) => ?_)
 refine Dc [2,3,7] [(2,pt z),(3,pt (z+1)),(7,.bool (win g.Bg 0 255))] ?_
 by_cases h4:(win g.Bg 0 255)=true
 ·have hd5:=DD h4
  refine Bq 0 7 [] [[(ov (.bool false)),o0,o0,(a1 2),o0,(a1 2),(ov (i6 (256 - g.Bg)))]] [Value.bool (!(win g.Bg 0 255))=Value.bool false,Qb (z+1),Qb (z+1),Wr ((256:Int) - g.Bg) (256 - g.Bg)] [(2,pt z),(3,pt (z+1)),(9,.bool false),(11,i6 g.AL),(14,i6 (256 - g.Bg))] rfl ⟨by simp[h4],rfl,rfl,BQ,Ae⟩ ?_
  refine AY 43 #[i6 g.AL,i6 1,i6 (256 - g.Bg)] (some 15) (.bool (win g.AL 1 (256 - g.Bg))) (fun w6 hw6=>Gj w6 g.AL 1 (256 - g.Bg)) (fun n7 (hn8:n2≤n7) => ?_)
  refine Dc [2,3,9,15] [(2,pt z),(3,pt (z+1)),(9,.bool false),(15,.bool (win g.AL 1 (256 - g.Bg)))] ?_
  by_cases h9:(win g.AL 1 (256 - g.Bg))=true
  ·have hd10:=DD h9
   refine Bq 6 0 [0] [[(ov (.bool false)),o0]] [Value.bool (!(win g.AL 1 (256 - g.Bg)))=Value.bool false] [(2,pt z),(3,pt (z+1)),(17,.bool false)] rfl ⟨by simp[h9],Ae⟩ ?_
   by_cases h11:(g.Frame:Int)<0
   ·refine Au 4 0 [] [[o0,(a1 2),oF,o0,o0,o0,o0,o0]] [Qb (z+1),BF ((g.Frame:Int)≥0)] [(4,.bool false)] rfl ⟨rfl,bf,Ae⟩ ?_
    refine Az [] [] (.bool false) Ae ?_
    intro w12 hw12
    refine⟨congrArg (fun b=>Ending.returned (Value.bool b)) (?_:false=Js c g),AA hw12⟩
    have hgf:(-9223372036854775808:Int)≤g.Frame∧g.Frame≤9223372036854775807:=hg.Frame
    unfold Js
    first | done | simp[h4,h9];try omega
   by_cases h13:(c.Frames - g.Frame:Int)<g.AL
   ·refine Au 4 0 [] [[o0,(a1 2),oT,o0,o0,(a1 2),o0,(a1 1),o0,(a1 2),(ov (i6 (c.Frames - g.Frame))),oF,o0,o0,o0,o0]] [Qb (z+1),BT ((g.Frame:Int)≥0),Qb (z+1),Qb z,Qb (z+1),Wr ((c.Frames:Int) - g.Frame) (c.Frames - g.Frame),BF ((g.AL:Int)≤(c.Frames - g.Frame))] [(4,.bool false)] rfl ⟨rfl,bt,rfl,rfl,rfl,BQ,bf,Ae⟩ ?_
    refine Az [] [] (.bool false) Ae ?_
    intro w14 hw14
    refine⟨congrArg (fun b=>Ending.returned (Value.bool b)) (?_:false=Js c g),AA hw14⟩
    have hgf:(-9223372036854775808:Int)≤g.Frame∧g.Frame≤9223372036854775807:=hg.Frame
    unfold Js
    first | done | simp[h4,h9];try omega
   refine Au 1 16 [] [[o0,(a1 2),oT,o0,o0,(a1 2),o0,(a1 1),o0,(a1 2),(ov (i6 (c.Frames - g.Frame))),oT,o0,o0,o0,(a1 2)]] [Qb (z+1),BT ((g.Frame:Int)≥0),Qb (z+1),Qb z,Qb (z+1),Wr ((c.Frames:Int) - g.Frame) (c.Frames - g.Frame),BT ((g.AL:Int)≤(c.Frames - g.Frame)),Qb (z+1)] [(31,.bool true),(33,i6 g.Il)] rfl ⟨rfl,bt,rfl,rfl,rfl,BQ,bt,rfl,Ae⟩ ?_
   refine AY 43 #[i6 g.Il,i6 1,i6 7] (some 34) (.bool (win g.Il 1 7)) (fun w15 hw15=>Gj w15 g.Il 1 7) (fun n16 (hn17:n7≤n16) => ?_)
   refine Bq 3 0 [] [[o0,o0]] [] [(4,.bool (win g.Il 1 7))] rfl Ae ?_
   refine Az [] [] (.bool (win g.Il 1 7)) Ae ?_
   intro w18 hw18
   refine⟨congrArg (fun b=>Ending.returned (Value.bool b)) (?_:win g.Il 1 7=Js c g),AA hw18⟩
   have hgf:(-9223372036854775808:Int)≤g.Frame∧g.Frame≤9223372036854775807:=hg.Frame
   unfold Js
   first | done | simp[h4,h9];try omega
  have hd19:=FI h9
  refine Bq 8 0 [1] [[(ov (.bool true)),o0],[o0]] [Value.bool (!(win g.AL 1 (256 - g.Bg)))=Value.bool true] [(4,.bool false)] rfl ⟨by simp[h9],Ae⟩ ?_
  refine Az [] [] (.bool false) Ae ?_
  intro w20 hw20
  refine⟨congrArg (fun b=>Ending.returned (Value.bool b)) (?_:false=Js c g),AA hw20⟩
  have hgf:(-9223372036854775808:Int)≤g.Frame∧g.Frame≤9223372036854775807:=hg.Frame
  unfold Js
  first | done | simp[h4,h9];try omega
 have hd21:=FI h4
 refine Bq 8 0 [1] [[(ov (.bool true)),o0,o0],[o0]] [Value.bool (!(win g.Bg 0 255))=Value.bool true] [(4,.bool false)] rfl ⟨by simp[h4],Ae⟩ ?_
 refine Az [] [] (.bool false) Ae ?_
 intro w22 hw22
 refine⟨congrArg (fun b=>Ending.returned (Value.bool b)) (?_:false=Js c g),AA hw22⟩
 have hgf:(-9223372036854775808:Int)≤g.Frame∧g.Frame≤9223372036854775807:=hg.Frame
 unfold Js
 first | done | simp[h4];try omega
theorem okf_reg(c:Ai)(p k:Nat):EJ c p k=AQ∨(¬ (EJ c p k).e=0∧(EJ c p k).Ag=⟨p,k⟩):=by
 unfold EJ
 split
 ·exact .inr ⟨(by decide:¬ (409:Int)=0),rfl⟩
 split
 ·exact .inr ⟨(by decide:¬ (410:Int)=0),rfl⟩
 split
 ·exact .inr ⟨(by decide:¬ (411:Int)=0),rfl⟩
 exact .inl rfl
theorem Yr{c:Ai}{p k:Nat}:(EJ c p k).e=0↔EJ c p k=AQ:=by
 constructor
 ·intro h
  rcases okf_reg c p k with e | e
  ·exact e
  exact absurd h e.1
 intro h;rw[h];rfl
theorem Uz{x:Am}(h:SK x):x.e=0↔x=AQ:=by
 constructor
 ·intro e
  rcases h with h | h
  ·exact h
  omega
 intro e;rw[e];rfl
section
variable {c:Ai}{p k:Nat}
theorem TK(h:AV (Gw c p)≠AQ):CP c p=AV (Gw c p):=by
 have hB:IV c p=AV (Gw c p):=by
  have:=Lj (f:=EJ c p) (k:=0) (by rw[LU];exact h) (Nat.zero_le (Ey c p).Ah.xs.length)
  rw[LU]at this;exact this
 unfold CP
 rw[hB,if_neg h]
theorem We{o:Am}{f:Nat→Am}(ho:o=AQ){k:Nat}(hf:∀ a,a<k→f a=AQ):Fz o f k=AQ:=by
 subst ho;exact SQ hf
theorem then_at{o:Am}{f:Nat→Am}(ho:o=AQ){k n:Nat}(hf:∀ a,a<k→f a=AQ)(hk:k<n)(hne:f k≠AQ):Fz o f n=f k:=by
 have h1:=P9 (We ho hf)
 have h2:=Lj (k:=k+1) (by rw[h1];exact hne) (show k+1≤n by omega)
 rw[h1]at h2;exact h2
theorem partQ_r(hA:AV (Gw c p)=AQ)(hf:∀ a,a<k→EJ c p a=AQ)(hk:k<(Ey c p).Ah.xs.length)(hne:EJ c p k≠AQ):CP c p=EJ c p k:=by
 have hB:IV c p=EJ c p k:=then_at hA hf hk hne
 unfold CP
 rw[hB,if_neg hne]
theorem partQ_e(hB:IV c p=AQ)(hE:AV (HY c p)≠AQ):CP c p=AV (HY c p):=by
 unfold CP
 rw[if_pos hB]
 have:=Lj (f:=J5 c p) (k:=0) (by rw[LU];exact hE) (Nat.zero_le (Ey c p).Ap.xs.length)
 rw[LU]at this;exact this
theorem partQ_q(hB:IV c p=AQ)(hE:AV (HY c p)=AQ)(hf:∀ a,a<k→J5 c p a=AQ)(hk:k<(Ey c p).Ap.xs.length)(hne:J5 c p k≠AQ):CP c p=J5 c p k:=by
 unfold CP
 rw[if_pos hB]
 exact then_at hE hf hk hne
theorem partQ_f(hB:IV c p=AQ)(hE:AV (HY c p)=AQ)(hf:∀ a,a<(Ey c p).Ap.xs.length→J5 c p a=AQ):CP c p=AQ:=by
 unfold CP
 rw[if_pos hB]
 exact We hE hf
theorem unl_no{b:Bool}{e:Int}{w:JK}(he:e≠0)(h:b=false):Af b e w≠AQ:=by
 subst h;intro x;exact he (congrArg Am.e x)
end
section
variable (z:Nat)(y16:BB)(c:Ai)
abbrev Oe:=bk (z+1) (BB.arr y16) 103
abbrev Nq:=bk z (Ai.arr c) 26
abbrev Ib:=(7,pt (z+1))
end
theorem rregion_calls(w:World)(c:Ai)(hc:Ai.ok Any w c)(p k:Nat)(hp:p<c.Aa.xs.length)(hk:k<(gd c.Aa.xs p).Ah.xs.length)(hFr:1≤c.Frames∧c.Frames≤1024)(hb:∀ q n,q≤p→n<(gd c.Aa.xs q).Ah.xs.length→(q<p∨n<k)→Bd (DV c q n)):Calls Tryd.prog 45 #[.agg (Ai.arr c),.int .i64 (p:Int),.int .i64 (k:Int)] w fun e w'=>e = .returned (.int .i64 (EJ c p k).e)∧CE (fun _=>False) w w':=by
 obtain⟨z,hz⟩:∃ z,z=w.heap.size:=⟨_,rfl⟩
 refine Cb (args:=[.agg (Ai.arr c),Ac p,Ac k]) 91 ⟨w,z,[(Ak w)]⟩ Tryd.func45 rfl (by kernel_rfl) (by kernel_rfl) (Em hz) ?_
 have hpl:=hc.Aa.1.len;have hpc:=hc.Aa.1.le;have hrl:=(hc.Aa.2 p hp).Ah.1.len;have hrc:=(hc.Aa.2 p hp).Ah.1.le
 refine DI [0,1,2] [(0,.agg (Ai.arr c)),(1,Ac p),(2,Ac k)] ?_
 refine q_c 5 0 [] [[o0,o0]] [] [(1,Ac p),(2,Ac k),(3,pt z)] ⟨w,z+1,[(Ak w),(Nq z c)]⟩ rfl Ae ?_
 obtain⟨b1,o2,ha3,hF5,hc4⟩:=(hc.Aa).1.all (show 0<c.Aa.xs.length by omega)
 replace ha3:c.Aa.a=some ⟨b1,o2,none⟩:=ha3
 have hc6:=hc4 p (show p<c.Aa.xs.length by omega)
 have he7:=(hc.Aa).2 p (show p<c.Aa.xs.length by omega)
 obtain⟨y8,hy8⟩:∃ y_,y_=gd c.Aa.xs p:=⟨_,rfl⟩
 rw[←hy8]at he7 hc6
 have hley8:y8.Ah.xs.length=(gd c.Aa.xs p).Ah.xs.length:=(by rw[hy8]);have hyly8:=he7.Ah.1.len
 obtain⟨b9,o10,ha11,hF13,hc12⟩:=(he7.Ah).1.all (show 0<y8.Ah.xs.length by omega)
 replace ha11:y8.Ah.a=some ⟨b9,o10,none⟩:=ha11
 have hc14:=hc12 k (show k<y8.Ah.xs.length by omega)
 have he15:=(he7.Ah).2 k (show k<y8.Ah.xs.length by omega)
 obtain⟨y16,hy16⟩:∃ y_,y_=gd y8.Ah.xs k:=⟨_,rfl⟩
 rw[←hy16]at he15 hc14
 have e0y16:DV c p k=y16:=(by dsimp only[DV];rw[hy16,hy8]);have hgfy16:(-9223372036854775808:Int)≤y16.Frame∧y16.Frame≤9223372036854775807:=he15.Frame
 refine q_c 6 2 [] [[o0,(E8 1 b1 o2 c.Aa),o0,(oi p),o0,⟨.auto [.via 0 (.slice y8.Ah.a y8.Ah.xs.length y8.Ah.cap)],some (.slice (some ⟨b9,o10,none⟩) y8.Ah.xs.length y8.Ah.cap)⟩,o0,(oi k),(ol 0 (BB.arr y16)),o0,(an 4 2)],[(an 7 1),(an 4 2)]] [Qb z,DZ b1 o2 c.Aa,CW p,p<c.Aa.xs.length,Ce,Old w b1 (o2+p*8+6) (.slice y8.Ah.a y8.Ah.xs.length y8.Ah.cap),DZ b9 o10 y8.Ah,CW k,k<y8.Ah.xs.length,Ce,GU w b9 (o10+k*4) (BB.arr y16),Qb (z+1),Qb (z+1),Qb (z+1),Qb (z+1),Qb z,Qb z,Qb z,Qb z,Qb z,Qb z,Qb z,Qb (z+1),Qb (z+1),Qb (z+1),Qb (z+1)] [(1,Ac p),(2,Ac k),(3,pt z),(Ib z),(22,.agg (Ai.arr c)),(23,.agg (BB.arr y16))] ⟨w,z+2,[(Ak w),(Nq z c),(Oe z y16)]⟩ rfl ⟨rfl,Ea ha3,rfl,(by omega),rfl,Aw (hc6 6 _ rfl),Ea ha11,rfl,(by omega),rfl,Ei hc14,rfl,rfl,rfl,rfl,rfl,rfl,rfl,rfl,rfl,rfl,rfl,rfl,rfl,rfl,rfl,Ae⟩ ?_
 refine AY 79 #[.agg (Ai.arr c),.agg (BB.arr y16)] (some 24) (.bool (Js c y16)) (fun w17 hw17=>rright_calls w17 c (hc.ext (hw17.ext rfl) (fun _ h=>h)) hFr y16 (he15.ext (hw17.ext rfl) (fun _ h=>h))) (fun n18 (hn19:z+2≤n18) => ?_)
 refine Dc [1,2,3,7,24] [(1,Ac p),(2,Ac k),(3,pt z),(Ib z),(24,.bool (Js c y16))] ?_
 by_cases h20:(Js c y16)=true
 ·refine Bq 11 0 [0] [[(ov (.bool false))],[o0]] [Value.bool (!(Js c y16))=Value.bool false] [(1,Ac p),(2,Ac k),(3,pt z),(Ib z),(8,i6 0)] rfl ⟨by simp[h20],Ae⟩ ?_
  refine Du (fun m a w'=>∃ (n22:Nat) (i:Nat),m=k - i∧n18≤n22∧(i≤k)∧(∀ a,a<i→Qh c p k a=false)∧St 91 [(1,Ac p),(2,Ac k),(3,pt z),(Ib z),(8,Ac i)] [] ⟨w,n22,[(Ak w),(Nq z c),(Oe z y16)]⟩ a w') (k - 0) ?_ ?_
  ·intro a w' hs;exact⟨n18,0,rfl,Nat.le_refl _,Nat.zero_le _,fun i hi=>absurd hi (Nat.not_lt_zero i),hs⟩
  rintro m a w' ⟨n22,i,rfl,hn21,hki,hf,hs⟩
  refine(?_:G Tryd.prog 91 [(1,Ac p),(2,Ac k),(3,pt z),(Ib z),(8,Ac i)] [] ⟨w,n22,[(Ak w),(Nq z c),(Oe z y16)]⟩ _ _ _) a w' hs
  clear hs a w'
  have hBk:=Xn hFr.2 h20;unfold Bd at hBk
  refine CB <| CB ?_
  by_cases h23:(i:Int)<(k:Int)
  ·refine Au 9 0 [1] [[o0,o0,oT]] [BT ((i:Int)<(k:Int))] [(1,Ac p),(2,Ac k),(3,pt z),(Ib z),(8,Ac i),(28,.bool true)] rfl ⟨bt,Ae⟩ ?_
   have hc24:=hc12 i (show i<y8.Ah.xs.length by omega)
   have he25:=(he7.Ah).2 i (show i<y8.Ah.xs.length by omega)
   obtain⟨y26,hy26⟩:∃ y_,y_=gd y8.Ah.xs i:=⟨_,rfl⟩
   rw[←hy26]at he25 hc24
   have e0y26:DV c p i=y26:=(by dsimp only[DV];rw[hy26,hy8]);have hgfy26:(-9223372036854775808:Int)≤y26.Frame∧y26.Frame≤9223372036854775807:=he25.Frame
   refine q_c 5 8 [] [[o0,(E8 1 b1 o2 c.Aa),o0,(oi p),o0,⟨.auto [.via 0 (.slice y8.Ah.a y8.Ah.xs.length y8.Ah.cap)],some (.slice (some ⟨b9,o10,none⟩) y8.Ah.xs.length y8.Ah.cap)⟩,o0,(oi i),(ol 0 (BB.arr y26)),o0,(an 4 3)],[o0,(a1 2),o0,(a1 2),o0,(a1 3),o0,(a1 3)]] [Qb z,DZ b1 o2 c.Aa,CW p,p<c.Aa.xs.length,Ce,Old w b1 (o2+p*8+6) (.slice y8.Ah.a y8.Ah.xs.length y8.Ah.cap),DZ b9 o10 y8.Ah,CW i,i<y8.Ah.xs.length,Ce,GU w b9 (o10+i*4) (BB.arr y26),Qb n22,Qb n22,Qb n22,Qb n22,Qb (z+1),Qb (z+1),Qb n22,Qb n22] [(1,Ac p),(2,Ac k),(3,pt z),(Ib z),(8,Ac i),(41,i6 y16.Bg),(43,i6 y16.AL),(45,i6 y26.Bg),(47,i6 y26.AL)] ⟨w,n22+1,[(Ak w),(Nq z c),(Oe z y16),(bk n22 (BB.arr y26) 103)]⟩ rfl ⟨rfl,Ea ha3,rfl,(by omega),rfl,Aw (hc6 6 _ rfl),Ea ha11,rfl,(by omega),rfl,Ei hc24,rfl,rfl,rfl,rfl,rfl,rfl,rfl,rfl,Ae⟩ ?_
   have hm28:=hb p i (by omega) (by omega) (by omega);rw[e0y26]at hm28;unfold Bd at hm28
   refine AY 49 #[i6 y16.Bg,i6 y16.AL,i6 y26.Bg,i6 y26.AL] (some 48) (.bool (meet y16.Bg y16.AL y26.Bg y26.AL)) (fun w27 hw27=>Si w27 y16.Bg y16.AL y26.Bg y26.AL (by omega) (by omega) (by omega) (by omega)) (fun n29 (hn30:n22+1≤n29) => ?_)
   refine Dc [1,2,3,7,8,48] [(1,Ac p),(2,Ac k),(3,pt z),(Ib z),(8,Ac i),(48,.bool (meet y16.Bg y16.AL y26.Bg y26.AL))] ?_
   refine U5 (by kernel_rfl) ?_
   refine GG ?_
   by_cases h31:(meet y16.Bg y16.AL y26.Bg y26.AL)=true
   ·refine Au 6 0 [3] [[o0]] [Value.bool (meet y16.Bg y16.AL y26.Bg y26.AL)=Value.bool true] [(6,i6 410)] rfl ⟨(congrArg Value.bool h31),Ae⟩ ?_
    refine Az [] [] (i6 410) Ae ?_
    intro w32 hw32
    have hq:EJ c p k=_:=regQ_b (by rw[e0y16];exact h20) (range_any (k:=i) (by omega) (by unfold Qh;rw[e0y16,e0y26];exact h31))
    exact⟨congrArg (fun t:Am=>Ending.returned (i6 t.e)) hq.symm,AA hw32⟩
   refine Au 6 0 [2] [[o0,(ov (i6 ((i+1:Nat):Int))),o0]] [Value.bool (meet y16.Bg y16.AL y26.Bg y26.AL)=Value.bool false,Wr ((i:Int)+1) (((i+1:Nat):Int))] [(1,Ac p),(2,Ac k),(3,pt z),(Ib z),(8,i6 ((i+1:Nat):Int))] rfl ⟨(congrArg Value.bool (Bool.eq_false_iff.2 h31)),BQ,Ae⟩ ?_
   refine BX [0,1,2] [(Ak w),(Nq z c),(Oe z y16)] rfl rfl ?_
   refine BK [1,2,3,7,8] [(1,Ac p),(2,Ac k),(3,pt z),(Ib z),(8,i6 ((i+1:Nat):Int))] ?_
   refine BO (fun a w' hs=>⟨k - (i+1),by omega,n29,(i+1),rfl,by omega,by omega,EP hf (by unfold Qh;rw[e0y16,e0y26];simpa using h31),hs⟩)
  refine Au 15 0 [0] [[o0,o0,oF],[o0]] [BF ((i:Int)<(k:Int))] [(1,Ac p),(2,Ac k),(3,pt z),(Ib z),(10,i6 0)] rfl ⟨bf,Ae⟩ ?_
  refine Du (fun m a w'=>∃ (n34:Nat) (q:Nat),m=p+1 - q∧n22≤n34∧(q≤p+1)∧(∀ a,a<q→Ye c p k a=false)∧St 91 [(1,Ac p),(2,Ac k),(3,pt z),(Ib z),(10,Ac q)] [] ⟨w,n34,[(Ak w),(Nq z c),(Oe z y16)]⟩ a w') (p+1 - 0) ?_ ?_
  ·intro a w' hs;exact⟨n22,0,rfl,Nat.le_refl _,Nat.zero_le _,fun i hi=>absurd hi (Nat.not_lt_zero i),hs⟩
  rintro m a w' ⟨n34,q,rfl,hn33,hkq,hg,hs⟩
  refine(?_:G Tryd.prog 91 [(1,Ac p),(2,Ac k),(3,pt z),(Ib z),(10,Ac q)] [] ⟨w,n34,[(Ak w),(Nq z c),(Oe z y16)]⟩ _ _ _) a w' hs
  clear hs a w'
  have hf0:(List.range k).any (Qh c p k)=false:=Gu (fun a ha=>hf a (by omega))
  refine CB <| CB ?_
  by_cases h35:(p:Int)<(q:Int)
  ·refine Au 14 0 [0] [[o0,o0,oF],[o0]] [BF ((q:Int)≤(p:Int))] [(6,i6 0)] rfl ⟨bf,Ae⟩ ?_
   refine Az [] [] (i6 0) Ae ?_
   intro w36 hw36
   have hq:EJ c p k=_:=regQ_d (by rw[e0y16];exact h20) hf0 (Gu (fun i hi=>hg i (by omega)))
   exact⟨congrArg (fun t:Am=>Ending.returned (i6 t.e)) hq.symm,AA hw36⟩
  refine Au 13 0 [1] [[o0,o0,oT],[o0]] [BT ((q:Int)≤(p:Int))] [(1,Ac p),(2,Ac k),(3,pt z),(Ib z),(10,Ac q),(11,i6 0)] rfl ⟨bt,Ae⟩ ?_
  refine Du (fun m a w'=>∃ (n38:Nat) (n:Nat),m=(gd c.Aa.xs q).Ah.xs.length - n∧n34≤n38∧(n≤(gd c.Aa.xs q).Ah.xs.length)∧(∀ a,a<n→Qg c p k q a=false)∧St 91 [(1,Ac p),(2,Ac k),(3,pt z),(Ib z),(10,Ac q),(11,Ac n)] [] ⟨w,n38,[(Ak w),(Nq z c),(Oe z y16)]⟩ a w') ((gd c.Aa.xs q).Ah.xs.length - 0) ?_ ?_
  ·intro a w' hs;exact⟨n34,0,rfl,Nat.le_refl _,Nat.zero_le _,fun i hi=>absurd hi (Nat.not_lt_zero i),hs⟩
  rintro m a w' ⟨n38,n,rfl,hn37,hkn,hh,hs⟩
  refine(?_:G Tryd.prog 91 [(1,Ac p),(2,Ac k),(3,pt z),(Ib z),(10,Ac q),(11,Ac n)] [] ⟨w,n38,[(Ak w),(Nq z c),(Oe z y16)]⟩ _ _ _) a w' hs
  clear hs a w'
  refine CB <| CB ?_
  have hc39:=hc4 q (show q<c.Aa.xs.length by omega)
  have he40:=(hc.Aa).2 q (show q<c.Aa.xs.length by omega)
  obtain⟨y41,hy41⟩:∃ y_,y_=gd c.Aa.xs q:=⟨_,rfl⟩
  rw[←hy41]at he40 hc39
  have hley41:y41.Ah.xs.length=(gd c.Aa.xs q).Ah.xs.length:=(by rw[hy41]);have hyly41:=he40.Ah.1.len
  by_cases h42:(n:Int)<(y41.Ah.xs.length:Int)
  ·refine Au 10 0 [1] [[o0,o0,(E8 1 b1 o2 c.Aa),o0,(oi q),o0,(oa [.via 0 (.slice y41.Ah.a y41.Ah.xs.length y41.Ah.cap)]),o0,oT]] [Qb z,DZ b1 o2 c.Aa,CW q,q<c.Aa.xs.length,Ce,Old w b1 (o2+q*8+6) (.slice y41.Ah.a y41.Ah.xs.length y41.Ah.cap),BT ((n:Int)<(y41.Ah.xs.length:Int))] [(1,Ac p),(2,Ac k),(3,pt z),(Ib z),(10,Ac q),(11,Ac n),(62,.bool true)] rfl ⟨rfl,Ea ha3,rfl,(by omega),rfl,Aw (hc39 6 _ rfl),bt,Ae⟩ ?_
   by_cases h43:(q:Int)=(p:Int)
   ·by_cases h44:(n:Int)<(k:Int)
    ·refine Au 7 0 [0] [[o0,o0,oT,o0,o0,o0,oF,o0]] [ET (q:Int) (p:Int),BF ((n:Int)≥(k:Int))] [(1,Ac p),(2,Ac k),(3,pt z),(Ib z),(10,Ac q),(11,Ac n),(72,.bool false)] rfl ⟨et,bf,Ae⟩ ?_
     obtain⟨b45,o46,ha47,hF49,hc48⟩:=(he40.Ah).1.all (show 0<y41.Ah.xs.length by omega)
     replace ha47:y41.Ah.a=some ⟨b45,o46,none⟩:=ha47
     have hc50:=hc48 n (show n<y41.Ah.xs.length by omega)
     have he51:=(he40.Ah).2 n (show n<y41.Ah.xs.length by omega)
     obtain⟨y52,hy52⟩:∃ y_,y_=gd y41.Ah.xs n:=⟨_,rfl⟩
     rw[←hy52]at he51 hc50
     have e0y52:DV c q n=y52:=(by dsimp only[DV];rw[hy52,hy41]);have hgfy52:(-9223372036854775808:Int)≤y52.Frame∧y52.Frame≤9223372036854775807:=he51.Frame
     refine q_c 5 8 [] [[o0,(E8 1 b1 o2 c.Aa),o0,(oi q),o0,⟨.auto [.via 0 (.slice y41.Ah.a y41.Ah.xs.length y41.Ah.cap)],some (.slice (some ⟨b45,o46,none⟩) y41.Ah.xs.length y41.Ah.cap)⟩,o0,(oi n),(ol 0 (BB.arr y52)),o0,(an 4 3)],[o0,(a1 2),o0,(a1 2),o0,(a1 3),o0,(a1 3)]] [Qb z,DZ b1 o2 c.Aa,CW q,q<c.Aa.xs.length,Ce,Old w b1 (o2+q*8+6) (.slice y41.Ah.a y41.Ah.xs.length y41.Ah.cap),DZ b45 o46 y41.Ah,CW n,n<y41.Ah.xs.length,Ce,GU w b45 (o46+n*4) (BB.arr y52),Qb n38,Qb n38,Qb n38,Qb n38,Qb (z+1),Qb (z+1),Qb n38,Qb n38] [(1,Ac p),(2,Ac k),(3,pt z),(Ib z),(10,Ac q),(11,Ac n),(83,i6 y16.Frame),(85,i6 y16.AL),(87,i6 y52.Frame),(89,i6 y52.AL)] ⟨w,n38+1,[(Ak w),(Nq z c),(Oe z y16),(bk n38 (BB.arr y52) 103)]⟩ rfl ⟨rfl,Ea ha3,rfl,(by omega),rfl,Aw (hc39 6 _ rfl),Ea ha47,rfl,(by omega),rfl,Ei hc50,rfl,rfl,rfl,rfl,rfl,rfl,rfl,rfl,Ae⟩ ?_
     have hm54:=hb q n (by omega) (by omega) (by omega);rw[e0y52]at hm54;unfold Bd at hm54
     refine AY 49 #[i6 y16.Frame,i6 y16.AL,i6 y52.Frame,i6 y52.AL] (some 90) (.bool (meet y16.Frame y16.AL y52.Frame y52.AL)) (fun w53 hw53=>Si w53 y16.Frame y16.AL y52.Frame y52.AL (by omega) (by omega) (by omega) (by omega)) (fun n55 (hn56:n38+1≤n55) => ?_)
     refine Dc [1,2,3,7,10,11,90] [(1,Ac p),(2,Ac k),(3,pt z),(Ib z),(10,Ac q),(11,Ac n),(90,.bool (meet y16.Frame y16.AL y52.Frame y52.AL))] ?_
     refine U5 (by kernel_rfl) ?_
     refine GG ?_
     by_cases h57:(meet y16.Frame y16.AL y52.Frame y52.AL)=true
     ·refine Au 6 0 [3] [[o0]] [Value.bool (meet y16.Frame y16.AL y52.Frame y52.AL)=Value.bool true] [(6,i6 411)] rfl ⟨(congrArg Value.bool h57),Ae⟩ ?_
      refine Az [] [] (i6 411) Ae ?_
      intro w58 hw58
      have hq:EJ c p k=_:=WZ (by rw[e0y16];exact h20) hf0 (range_any (k:=q) (by omega) (range_any (k:=n) (by dsimp only[Ey];omega) (by unfold Qg;rw[e0y16,e0y52,h57];simp;omega)))
      exact⟨congrArg (fun t:Am=>Ending.returned (i6 t.e)) hq.symm,AA hw58⟩
     refine Au 6 0 [2] [[o0,(ov (i6 ((n+1:Nat):Int))),o0]] [Value.bool (meet y16.Frame y16.AL y52.Frame y52.AL)=Value.bool false,Wr ((n:Int)+1) (((n+1:Nat):Int))] [(1,Ac p),(2,Ac k),(3,pt z),(Ib z),(10,Ac q),(11,i6 ((n+1:Nat):Int))] rfl ⟨(congrArg Value.bool (Bool.eq_false_iff.2 h57)),BQ,Ae⟩ ?_
     refine BX [0,1,2] [(Ak w),(Nq z c),(Oe z y16)] rfl rfl ?_
     refine BK [1,2,3,7,10,11] [(1,Ac p),(2,Ac k),(3,pt z),(Ib z),(10,Ac q),(11,i6 ((n+1:Nat):Int))] ?_
     refine BO (fun a w' hs=>⟨(gd c.Aa.xs q).Ah.xs.length - (n+1),by omega,n55,(n+1),rfl,by omega,by omega,EP hh (by unfold Qg;rw[e0y16,e0y52];simp[h57]),hs⟩)
    refine Au 14 0 [1] [[o0,o0,oT,o0,o0,o0,oT,o0],[o0,(ov (i6 ((q+1:Nat):Int))),o0]] [ET (q:Int) (p:Int),BT ((n:Int)≥(k:Int)),Wr ((q:Int)+1) (((q+1:Nat):Int))] [(1,Ac p),(2,Ac k),(3,pt z),(Ib z),(10,i6 ((q+1:Nat):Int))] rfl ⟨et,bt,BQ,Ae⟩ ?_
    refine BO (fun a w' hs=>⟨p+1 - (q+1),by omega,n38,(q+1),rfl,by omega,by omega,EP hg (Gu (fun i hi=>if h9:i<n then hh i h9 else(by dsimp only[Ey]at hi;unfold Qg;rw[show(decide (q<p)||decide (i<k))=false from by simp;omega];rfl))),hs⟩)
   refine Au 7 0 [0] [[o0,o0,oF,o0,o0]] [EF (q:Int) (p:Int)] [(1,Ac p),(2,Ac k),(3,pt z),(Ib z),(10,Ac q),(11,Ac n),(72,.bool false)] rfl ⟨ef,Ae⟩ ?_
   obtain⟨b59,o60,ha61,hF63,hc62⟩:=(he40.Ah).1.all (show 0<y41.Ah.xs.length by omega)
   replace ha61:y41.Ah.a=some ⟨b59,o60,none⟩:=ha61
   have hc64:=hc62 n (show n<y41.Ah.xs.length by omega)
   have he65:=(he40.Ah).2 n (show n<y41.Ah.xs.length by omega)
   obtain⟨y66,hy66⟩:∃ y_,y_=gd y41.Ah.xs n:=⟨_,rfl⟩
   rw[←hy66]at he65 hc64
   have e0y66:DV c q n=y66:=(by dsimp only[DV];rw[hy66,hy41]);have hgfy66:(-9223372036854775808:Int)≤y66.Frame∧y66.Frame≤9223372036854775807:=he65.Frame
   refine q_c 5 8 [] [[o0,(E8 1 b1 o2 c.Aa),o0,(oi q),o0,⟨.auto [.via 0 (.slice y41.Ah.a y41.Ah.xs.length y41.Ah.cap)],some (.slice (some ⟨b59,o60,none⟩) y41.Ah.xs.length y41.Ah.cap)⟩,o0,(oi n),(ol 0 (BB.arr y66)),o0,(an 4 3)],[o0,(a1 2),o0,(a1 2),o0,(a1 3),o0,(a1 3)]] [Qb z,DZ b1 o2 c.Aa,CW q,q<c.Aa.xs.length,Ce,Old w b1 (o2+q*8+6) (.slice y41.Ah.a y41.Ah.xs.length y41.Ah.cap),DZ b59 o60 y41.Ah,CW n,n<y41.Ah.xs.length,Ce,GU w b59 (o60+n*4) (BB.arr y66),Qb n38,Qb n38,Qb n38,Qb n38,Qb (z+1),Qb (z+1),Qb n38,Qb n38] [(1,Ac p),(2,Ac k),(3,pt z),(Ib z),(10,Ac q),(11,Ac n),(83,i6 y16.Frame),(85,i6 y16.AL),(87,i6 y66.Frame),(89,i6 y66.AL)] ⟨w,n38+1,[(Ak w),(Nq z c),(Oe z y16),(bk n38 (BB.arr y66) 103)]⟩ rfl ⟨rfl,Ea ha3,rfl,(by omega),rfl,Aw (hc39 6 _ rfl),Ea ha61,rfl,(by omega),rfl,Ei hc64,rfl,rfl,rfl,rfl,rfl,rfl,rfl,rfl,Ae⟩ ?_
   have hm68:=hb q n (by omega) (by omega) (by omega);rw[e0y66]at hm68;unfold Bd at hm68
   refine AY 49 #[i6 y16.Frame,i6 y16.AL,i6 y66.Frame,i6 y66.AL] (some 90) (.bool (meet y16.Frame y16.AL y66.Frame y66.AL)) (fun w67 hw67=>Si w67 y16.Frame y16.AL y66.Frame y66.AL (by omega) (by omega) (by omega) (by omega)) (fun n69 (hn70:n38+1≤n69) => ?_)
   refine Dc [1,2,3,7,10,11,90] [(1,Ac p),(2,Ac k),(3,pt z),(Ib z),(10,Ac q),(11,Ac n),(90,.bool (meet y16.Frame y16.AL y66.Frame y66.AL))] ?_
   refine U5 (by kernel_rfl) ?_
   refine GG ?_
   by_cases h71:(meet y16.Frame y16.AL y66.Frame y66.AL)=true
   ·refine Au 6 0 [3] [[o0]] [Value.bool (meet y16.Frame y16.AL y66.Frame y66.AL)=Value.bool true] [(6,i6 411)] rfl ⟨(congrArg Value.bool h71),Ae⟩ ?_
    refine Az [] [] (i6 411) Ae ?_
    intro w72 hw72
    have hq:EJ c p k=_:=WZ (by rw[e0y16];exact h20) hf0 (range_any (k:=q) (by omega) (range_any (k:=n) (by dsimp only[Ey];omega) (by unfold Qg;rw[e0y16,e0y66,h71];simp;omega)))
    exact⟨congrArg (fun t:Am=>Ending.returned (i6 t.e)) hq.symm,AA hw72⟩
   refine Au 6 0 [2] [[o0,(ov (i6 ((n+1:Nat):Int))),o0]] [Value.bool (meet y16.Frame y16.AL y66.Frame y66.AL)=Value.bool false,Wr ((n:Int)+1) (((n+1:Nat):Int))] [(1,Ac p),(2,Ac k),(3,pt z),(Ib z),(10,Ac q),(11,i6 ((n+1:Nat):Int))] rfl ⟨(congrArg Value.bool (Bool.eq_false_iff.2 h71)),BQ,Ae⟩ ?_
   refine BX [0,1,2] [(Ak w),(Nq z c),(Oe z y16)] rfl rfl ?_
   refine BK [1,2,3,7,10,11] [(1,Ac p),(2,Ac k),(3,pt z),(Ib z),(10,Ac q),(11,i6 ((n+1:Nat):Int))] ?_
   refine BO (fun a w' hs=>⟨(gd c.Aa.xs q).Ah.xs.length - (n+1),by omega,n69,(n+1),rfl,by omega,by omega,EP hh (by unfold Qg;rw[e0y16,e0y66];simp[h71]),hs⟩)
  refine Au 12 0 [0] [[o0,o0,(E8 1 b1 o2 c.Aa),o0,(oi q),o0,(oa [.via 0 (.slice y41.Ah.a y41.Ah.xs.length y41.Ah.cap)]),o0,oF],[o0,(ov (i6 ((q+1:Nat):Int))),o0]] [Qb z,DZ b1 o2 c.Aa,CW q,q<c.Aa.xs.length,Ce,Old w b1 (o2+q*8+6) (.slice y41.Ah.a y41.Ah.xs.length y41.Ah.cap),BF ((n:Int)<(y41.Ah.xs.length:Int)),Wr ((q:Int)+1) (((q+1:Nat):Int))] [(1,Ac p),(2,Ac k),(3,pt z),(Ib z),(10,i6 ((q+1:Nat):Int))] rfl ⟨rfl,Ea ha3,rfl,(by omega),rfl,Aw (hc39 6 _ rfl),bf,BQ,Ae⟩ ?_
  refine BO (fun a w' hs=>⟨p+1 - (q+1),by omega,n38,(q+1),rfl,by omega,by omega,EP hg (Gu (fun i hi=>if h9:i<n then hh i h9 else(by dsimp only[Ey]at hi;unfold Qg;rw[show(decide (q<p)||decide (i<k))=false from by simp;omega];rfl))),hs⟩)
 refine Bq 8 0 [1] [[(ov (.bool true))],[o0]] [Value.bool (!(Js c y16))=Value.bool true] [(6,i6 409)] rfl ⟨by simp[h20],Ae⟩ ?_
 refine Az [] [] (i6 409) Ae ?_
 intro w73 hw73
 have hq:EJ c p k=_:=Un (by rw[e0y16];simpa using h20)
 exact⟨congrArg (fun t:Am=>Ending.returned (i6 t.e)) hq.symm,AA hw73⟩
section
variable (z p:Nat)(y8:Ar)(c:Ai)
abbrev SB:=bk (z+1) #[(Ac p),i6 (-1)] 38
abbrev Um:=bk (z+1) #[i6 0,i6 0] 38
abbrev LM:=bk (z+2) (Ar.arr y8) 52
abbrev Lp:=bk z (Ai.arr c) 26
abbrev EN:=(5,pt (z+1))
abbrev Ia:=(6,pt (z+2))
end
theorem Yi(w:World)(c:Ai)(hc:Ai.ok Any w c)(p:Nat)(hp:p<c.Aa.xs.length)(hFr:1≤c.Frames∧c.Frames≤1024)(hpf:∀ q,q<p→CP c q=AQ):Calls Tryd.prog 22 #[.agg (Ai.arr c),.int .i64 (p:Int)] w fun e w'=>e = .returned (.tuple #[.int .i64 (CP c p).e,.agg #[.int .i64 (CP c p).Ag.First,.int .i64 (CP c p).Ag.Second]])∧CE (fun _=>False) w w':=by
 obtain⟨z,hz⟩:∃ z,z=w.heap.size:=⟨_,rfl⟩
 refine Cb (args:=[.agg (Ai.arr c),Ac p]) 107 ⟨w,z,[(Ak w)]⟩ Tryd.func22 rfl (by kernel_rfl) (by kernel_rfl) (Em hz) ?_
 have hpl:=hc.Aa.1.len;have hpc:=hc.Aa.1.le;have hcl:=hc.Aj.1.len
 refine DI [0,1] [(0,.agg (Ai.arr c)),(1,Ac p)] ?_
 refine q_c 5 0 [] [[o0,o0,o0]] [] [(1,Ac p),(2,pt z),(EN z)] ⟨w,z+2,[(Ak w),(Lp z c),(Um z)]⟩ rfl Ae ?_
 obtain⟨b1,o2,ha3,hF5,hc4⟩:=(hc.Aa).1.all (show 0<c.Aa.xs.length by omega)
 replace ha3:c.Aa.a=some ⟨b1,o2,none⟩:=ha3
 have hc6:=hc4 p (show p<c.Aa.xs.length by omega)
 have he7:=(hc.Aa).2 p (show p<c.Aa.xs.length by omega)
 obtain⟨y8,hy8⟩:∃ y_,y_=gd c.Aa.xs p:=⟨_,rfl⟩
 rw[←hy8]at he7 hc6
 have eP:Ey c p=y8:=hy8.symm;have hyr:y8.Ah.xs.length=(Ey c p).Ah.xs.length:=(by rw[eP]);have hyq:y8.Ap.xs.length=(Ey c p).Ap.xs.length:=(by rw[eP]);have hyl:=he7.Ah.1.len;have hyl2:=he7.Ap.1.len
 refine q_c 7 2 [] [[o0,(E8 1 b1 o2 c.Aa),o0,(oi p),(ol 0 (Ar.arr y8)),o0,(an 8 3)],[(an 7 1),o0]] [Qb z,DZ b1 o2 c.Aa,CW p,p<c.Aa.xs.length,Ce,GU w b1 (o2+p*8) (Ar.arr y8),Qb (z+2),Qb (z+2),Qb (z+2),Qb (z+2),Qb (z+2),Qb (z+2),Qb (z+2),Qb (z+2),Qb z,Qb z,Qb z,Qb z,Qb z,Qb z,Qb z] [(1,Ac p),(2,pt z),(EN z),(Ia z),(16,.agg (Ai.arr c)),(17,Ac p)] ⟨w,z+3,[(Ak w),(Lp z c),(Um z),(LM z y8)]⟩ rfl ⟨rfl,Ea ha3,rfl,(by omega),rfl,Ei hc6,rfl,rfl,rfl,rfl,rfl,rfl,rfl,rfl,rfl,rfl,rfl,rfl,rfl,rfl,rfl,Ae⟩ ?_
 refine AY 44 #[.agg (Ai.arr c),Ac p] (some 18) (.bool (AO c p)) (fun w9 hw9=>rnamed_calls w9 c (hc.ext (hw9.ext rfl) (fun _ h=>h)) p hp) (fun n10 (hn11:z+3≤n10) => ?_)
 refine Dc [1,2,5,6,18] [(1,Ac p),(2,pt z),(EN z),(Ia z),(18,.bool (AO c p))] ?_
 by_cases h12:(AO c p)=true
 ·refine Bq 5 2 [0] [[(ov (.bool false)),o0],[o0,(a1 3)]] [Value.bool (!(AO c p))=Value.bool false,Qb (z+2)] [(1,Ac p),(2,pt z),(EN z),(Ia z),(24,i6 y8.FQ)] rfl ⟨by simp[h12],rfl,Ae⟩ ?_
  refine AY 43 #[i6 y8.FQ,i6 0,i6 2] (some 25) (.bool (win y8.FQ 0 2)) (fun w13 hw13=>Gj w13 y8.FQ 0 2) (fun n14 (hn15:n10≤n14) => ?_)
  refine Dc [1,2,5,6,25] [(1,Ac p),(2,pt z),(EN z),(Ia z),(25,.bool (win y8.FQ 0 2))] ?_
  by_cases h16:(win y8.FQ 0 2)=true
  ·have hd17:=DD h16
   refine Bq 0 4 [] [[(ov (.bool false)),o0,o0,(a1 3)]] [Value.bool (!(win y8.FQ 0 2))=Value.bool false,Qb (z+2)] [(1,Ac p),(2,pt z),(EN z),(Ia z),(27,.bool false),(29,i6 y8.Bo)] rfl ⟨by simp[h16],rfl,Ae⟩ ?_
   refine AY 43 #[i6 y8.Bo,i6 0,i6 15] (some 30) (.bool (win y8.Bo 0 15)) (fun w18 hw18=>Gj w18 y8.Bo 0 15) (fun n19 (hn20:n14≤n19) => ?_)
   refine Dc [1,2,5,6,27,30] [(1,Ac p),(2,pt z),(EN z),(Ia z),(27,.bool false),(30,.bool (win y8.Bo 0 15))] ?_
   by_cases h21:(win y8.Bo 0 15)=true
   ·have hd22:=DD h21
    refine Bq 5 2 [0] [[(ov (.bool false)),o0,o0],[o0,(a1 3)]] [Value.bool (!(win y8.Bo 0 15))=Value.bool false,Qb (z+2)] [(1,Ac p),(2,pt z),(EN z),(Ia z),(37,i6 y8.Fa)] rfl ⟨by simp[h21],rfl,Ae⟩ ?_
    refine AY 43 #[i6 y8.Fa,i6 0,i6 16] (some 38) (.bool (win y8.Fa 0 16)) (fun w23 hw23=>Gj w23 y8.Fa 0 16) (fun n24 (hn25:n19≤n24) => ?_)
    refine Dc [1,2,5,6,38] [(1,Ac p),(2,pt z),(EN z),(Ia z),(38,.bool (win y8.Fa 0 16))] ?_
    by_cases h26:(win y8.Fa 0 16)=true
    ·have hd27:=DD h26
     refine Bq 0 4 [] [[(ov (.bool false)),o0,o0,(a1 3)]] [Value.bool (!(win y8.Fa 0 16))=Value.bool false,Qb (z+2)] [(1,Ac p),(2,pt z),(EN z),(Ia z),(40,.bool false),(42,i6 y8.Bv)] rfl ⟨by simp[h26],rfl,Ae⟩ ?_
     refine AY 43 #[i6 y8.Bv,i6 0,i6 16] (some 43) (.bool (win y8.Bv 0 16)) (fun w28 hw28=>Gj w28 y8.Bv 0 16) (fun n29 (hn30:n24≤n29) => ?_)
     refine Dc [1,2,5,6,40,43] [(1,Ac p),(2,pt z),(EN z),(Ia z),(40,.bool false),(43,.bool (win y8.Bv 0 16))] ?_
     by_cases h31:(win y8.Bv 0 16)=true
     ·have hd32:=DD h31
      refine Bq 5 3 [0] [[(ov (.bool false)),o0,o0],[o0,(a1 3),o0]] [Value.bool (!(win y8.Bv 0 16))=Value.bool false,Qb (z+2)] [(1,Ac p),(2,pt z),(EN z),(Ia z),(51,Ac y8.Ah.xs.length)] rfl ⟨by simp[h31],rfl,Ae⟩ ?_
      refine AY 43 #[(Ac y8.Ah.xs.length),i6 1,i6 8] (some 52) (.bool (win (y8.Ah.xs.length:Int) 1 8)) (fun w33 hw33=>Gj w33 (y8.Ah.xs.length:Int) 1 8) (fun n34 (hn35:n29≤n34) => ?_)
      refine Dc [1,2,5,6,52] [(1,Ac p),(2,pt z),(EN z),(Ia z),(52,.bool (win (y8.Ah.xs.length:Int) 1 8))] ?_
      by_cases h36:(win (y8.Ah.xs.length:Int) 1 8)=true
      ·have hd37:=DD h36
       refine Bq 12 0 [0] [[(ov (.bool false)),o0],[o0]] [Value.bool (!(win (y8.Ah.xs.length:Int) 1 8))=Value.bool false] [(1,Ac p),(2,pt z),(EN z),(Ia z),(7,i6 0)] rfl ⟨by simp[h36],Ae⟩ ?_
       refine Du (fun m a w'=>∃ (n39:Nat) (k:Nat),m=(Ey c p).Ah.xs.length - k∧n34≤n39∧(k≤(Ey c p).Ah.xs.length)∧(∀ a,a<k→EJ c p a=AQ)∧St 107 [(1,Ac p),(2,pt z),(EN z),(Ia z),(7,Ac k)] [] ⟨w,n39,[(Ak w),(Lp z c),(Um z),(LM z y8)]⟩ a w') ((Ey c p).Ah.xs.length - 0) ?_ ?_
       ·intro a w' hs;exact⟨n34,0,rfl,Nat.le_refl _,Nat.zero_le _,fun i hi=>absurd hi (Nat.not_lt_zero i),hs⟩
       rintro m a w' ⟨n39,k,rfl,hn38,hkk,hf,hs⟩
       refine(?_:G Tryd.prog 107 [(1,Ac p),(2,pt z),(EN z),(Ia z),(7,Ac k)] [] ⟨w,n39,[(Ak w),(Lp z c),(Um z),(LM z y8)]⟩ _ _ _) a w' hs
       clear hs a w'
       have hA0:AV (Gw c p)=AQ:=by unfold Gw;simp only[eP];simp[AV,Af,AQ,h12,h16,h21,h26,h31,h36]
       refine CB <| CB ?_
       by_cases h40:(k:Int)<(y8.Ah.xs.length:Int)
       ·refine Au 10 3 [1] [[o0,o0,(a1 3),o0,oT],[(an 7 1),o0,o0]] [Qb (z+2),BT ((k:Int)<(y8.Ah.xs.length:Int)),Qb z,Qb z,Qb z,Qb z,Qb z,Qb z,Qb z] [(1,Ac p),(2,pt z),(EN z),(Ia z),(7,Ac k),(63,.agg (Ai.arr c)),(64,Ac p),(65,Ac k)] rfl ⟨rfl,bt,rfl,rfl,rfl,rfl,rfl,rfl,rfl,Ae⟩ ?_
        refine AY 45 #[.agg (Ai.arr c),Ac p,Ac k] (some 66) (i6 ((EJ c p k).e)) (fun w41 hw41=>rregion_calls w41 c (hc.ext (hw41.ext rfl) (fun _ h=>h)) p k hp (show k<(Ey c p).Ah.xs.length by omega) hFr (bd_all hFr hpf hf)) (fun n42 (hn43:n39≤n42) => ?_)
        refine Bq 3 0 [] [[o0]] [] [(1,Ac p),(2,pt z),(EN z),(Ia z),(7,Ac k),(8,i6 ((EJ c p k).e))] rfl Ae ?_
        by_cases h44:((EJ c p k).e:Int)=0
        ·refine Au 9 0 [0] [[o0,oF],[o0,(ov (i6 ((k+1:Nat):Int))),o0]] [NF ((EJ c p k).e) 0,Wr ((k:Int)+1) (((k+1:Nat):Int))] [(1,Ac p),(2,pt z),(EN z),(Ia z),(7,i6 ((k+1:Nat):Int))] rfl ⟨nf,BQ,Ae⟩ ?_
         refine BO (fun a w' hs=>⟨(Ey c p).Ah.xs.length - (k+1),by omega,n42,(k+1),rfl,by omega,by omega,EP hf (Yr.1 h44),hs⟩)
        refine q_c 9 0 [1] [[o0,oT],[o0,o0,o0,o0,o0,(an 2 2)]] [NT ((EJ c p k).e) 0,Qb (z+1),Qb (z+1)] [(EN z),(4,i6 ((EJ c p k).e))] ⟨w,n42,[(Ak w),(Lp z c),(bk (z+1) #[(Ac p),Ac k] 38),(LM z y8)]⟩ rfl ⟨nt,rfl,rfl,Ae⟩ ?_
        refine Az [.at 2,.at 2] [Qb (z+1),Qb (z+1)] (.tuple #[i6 ((EJ c p k).e),.agg #[(Ac p),Ac k]]) ⟨rfl,rfl,Ae⟩ ?_
        intro w45 hw45
        have hw9:(EJ c p k).Ag=⟨p,k⟩:=by rcases okf_reg c p k with e | e;exact absurd (Yr.2 e) h44;exact e.2
        have hq:CP c p=EJ c p k:=partQ_r hA0 hf (by omega) (fun e=>h44 (Yr.2 e))
        exact⟨congrArg Ending.returned (by rw[hq,hw9]),AA hw45⟩
       refine Au 12 1 [0] [[o0,o0,(a1 3),o0,oF],[(an 8 3)]] [Qb (z+2),BF ((k:Int)<(y8.Ah.xs.length:Int)),Qb (z+2),Qb (z+2),Qb (z+2),Qb (z+2),Qb (z+2),Qb (z+2),Qb (z+2),Qb (z+2)] [(1,Ac p),(2,pt z),(EN z),(Ia z),(73,.agg (Ar.arr y8))] rfl ⟨rfl,bf,rfl,rfl,rfl,rfl,rfl,rfl,rfl,rfl,Ae⟩ ?_
       have hBf:∀ a,a<(Ey c p).Ah.xs.length→EJ c p a=AQ:=fun a ha=>hf a (by omega)
       have hB0:IV c p=AQ:=We hA0 hBf
       refine AY 46 #[.agg (Ar.arr y8)] (some 74) (.bool (Ns y8)) (fun w46 hw46=>rentry_calls w46 y8 (he7.ext (hw46.ext rfl) (fun _ h=>h)) (fun k hk=>by have hz:=Xn hFr.2 (U6 (hBf k (by rw[←hyr];exact hk)));rw[show DV c p k=gd y8.Ah.xs k from by dsimp only[DV];rw[←hy8]]at hz;unfold Bd at hz;exact⟨hz.1,hz.2.1⟩)) (fun n47 (hn48:n39≤n47) => ?_)
       refine Dc [1,2,5,6,74] [(1,Ac p),(2,pt z),(EN z),(Ia z),(74,.bool (Ns y8))] ?_
       by_cases h49:(Ns y8)=true
       ·refine Bq 7 0 [0] [[(ov (.bool false))]] [Value.bool (!(Ns y8))=Value.bool false] [(1,Ac p),(2,pt z),(EN z),(Ia z),(75,.bool false)] rfl ⟨by simp[h49],Ae⟩ ?_
        by_cases h50:(8:Int)<(y8.Ap.xs.length:Int)
        ·refine Au 6 1 [1] [[o0,(a1 3),o0,oT],[o0]] [Qb (z+2),BT ((y8.Ap.xs.length:Int) > 8)] [(EN z),(82,Ac p)] rfl ⟨rfl,bt,Ae⟩ ?_
         refine AY 24 #[(Ac p)] (some 83) (.agg #[(Ac p),i6 (-1)]) (fun w51 hw51=>JJ w51 (p:Int)) (fun n52 (hn53:n47≤n52) => ?_)
         refine F8 3 0 [] [[o0,(an 2 2)]] [Qb (z+1),Qb (z+1)] [(EN z),(4,i6 413)] ⟨w,n52,[(Ak w),(Lp z c),(SB z p),(LM z y8)]⟩ rfl ⟨rfl,rfl,Ae⟩ ?_
         refine Az [.at 2,.at 2] [Qb (z+1),Qb (z+1)] (.tuple #[i6 413,.agg #[(Ac p),i6 (-1)]]) ⟨rfl,rfl,Ae⟩ ?_
         intro w54 hw54
         have hq:CP c p=⟨413,⟨(p:Int), -1⟩⟩:=(partQ_e hB0 (by unfold HY;simp only[eP];rw[show(win y8.Entry 0 4095&&Gt y8)=true from h49];(try simp[AV,Af,AQ,show ¬ y8.Ap.xs.length≤8 by omega]))).trans (by unfold HY;simp only[eP];rw[show(win y8.Entry 0 4095&&Gt y8)=true from h49];(try simp[AV,Af,AQ,show ¬ y8.Ap.xs.length≤8 by omega]))
         exact⟨congrArg (fun t:Am=>Ending.returned (.tuple #[i6 t.e,.agg #[i6 t.Ag.First,i6 t.Ag.Second]])) hq.symm,AA hw54⟩
        refine Au 12 0 [0] [[o0,(a1 3),o0,oF],[o0]] [Qb (z+2),BF ((y8.Ap.xs.length:Int) > 8)] [(1,Ac p),(2,pt z),(EN z),(Ia z),(9,i6 0)] rfl ⟨rfl,bf,Ae⟩ ?_
        refine Du (fun m a w'=>∃ (n56:Nat) (k:Nat),m=(Ey c p).Ap.xs.length - k∧n47≤n56∧(k≤(Ey c p).Ap.xs.length)∧(∀ a,a<k→J5 c p a=AQ)∧St 107 [(1,Ac p),(2,pt z),(EN z),(Ia z),(9,Ac k)] [] ⟨w,n56,[(Ak w),(Lp z c),(Um z),(LM z y8)]⟩ a w') ((Ey c p).Ap.xs.length - 0) ?_ ?_
        ·intro a w' hs;exact⟨n47,0,rfl,Nat.le_refl _,Nat.zero_le _,fun i hi=>absurd hi (Nat.not_lt_zero i),hs⟩
        rintro m a w' ⟨n56,k,rfl,hn55,hkk,hg,hs⟩
        refine(?_:G Tryd.prog 107 [(1,Ac p),(2,pt z),(EN z),(Ia z),(9,Ac k)] [] ⟨w,n56,[(Ak w),(Lp z c),(Um z),(LM z y8)]⟩ _ _ _) a w' hs
        clear hs a w'
        have hE0:AV (HY c p)=AQ:=by unfold HY;simp only[eP];rw[show(win y8.Entry 0 4095&&Gt y8)=true from h49];simp[AV,Af,AQ,show y8.Ap.xs.length≤8 by omega]
        refine CB <| CB ?_
        by_cases h57:(k:Int)<(y8.Ap.xs.length:Int)
        ·refine Au 9 0 [1] [[o0,o0,(a1 3),o0,oT]] [Qb (z+2),BT ((k:Int)<(y8.Ap.xs.length:Int))] [(1,Ac p),(2,pt z),(EN z),(Ia z),(9,Ac k),(88,.bool true)] rfl ⟨rfl,bt,Ae⟩ ?_
         obtain⟨b58,o59,ha60,hF62,hc61⟩:=(he7.Ap).1.all (show 0<y8.Ap.xs.length by omega)
         replace ha60:y8.Ap.a=some ⟨b58,o59,none⟩:=ha60
         have hc63:=hc61 k (show k<y8.Ap.xs.length by omega)
         have he64:=(he7.Ap).2 k (show k<y8.Ap.xs.length by omega)
         obtain⟨y65,hy65⟩:∃ y_,y_=gd y8.Ap.xs k:=⟨_,rfl⟩
         rw[←hy65]at he64 hc63
         have eQ:Yk c p k=y65:=(by dsimp only[Yk];rw[hy65,hy8])
         refine DX 12 [0,1,2,3] [(Ak w),(Lp z c),(Um z),(LM z y8)] rfl rfl ?_
         refine KZ [.tk 0 o0,.tk 1 (E8 3 b58 o59 y8.Ap),.tk 2 o0,.tk 3 (oi k),.tk 4 o0,.tk 5 (oa [.via 0 (i6 y65.Channel)]),.tk 6 o0,.tk 7 (a1 1),.tk 8 o0,.tk 9 (ov (i6 ((c.Aj.xs.length:Int) - 1))),.cl 10 (.bool (win y65.Channel 0 ((c.Aj.xs.length:Int) - 1)))] [1,2,5,6,9,101] [(43,#[i6 y65.Channel,i6 0,i6 ((c.Aj.xs.length:Int) - 1)],.bool (win y65.Channel 0 ((c.Aj.xs.length:Int) - 1)))] (D7 11 1) [Qb (z+2),DZ b58 o59 y8.Ap,CW k,k<y8.Ap.xs.length,Ce,Old w b58 (o59+k*2) (i6 y65.Channel),Qb z,Wr ((c.Aj.xs.length:Int) - 1) ((c.Aj.xs.length:Int) - 1)] [(1,Ac p),(2,pt z),(EN z),(Ia z),(9,Ac k),(101,.bool (win y65.Channel 0 ((c.Aj.xs.length:Int) - 1)))] [0,1,2,3] ⟨rfl,Ea ha60,rfl,(by omega),rfl,Aw (hc63 0 _ rfl),rfl,BQ,Ae⟩ ⟨fun w66 hw66=>Gj w66 y65.Channel 0 ((c.Aj.xs.length:Int) - 1),Ae⟩ (fun n67 hn68 => ?_)
         replace hn68:n56≤n67:=hn68
         by_cases h69:(win y65.Channel 0 ((c.Aj.xs.length:Int) - 1))=true
         ·have hd70:=DD h69
          refine CU [(11,(ov (.bool false)))] [1,2,5,6,9,102] [Value.bool (!(win y65.Channel 0 ((c.Aj.xs.length:Int) - 1)))=Value.bool false] (D7 12 0) [(1,Ac p),(2,pt z),(EN z),(Ia z),(9,Ac k),(102,.bool false)] ⟨by simp[h69],Ae⟩ ?_
          refine CO ?_
          refine LX 7 0 [0] [[o0,(ov (i6 ((k+1:Nat):Int))),o0]] [Wr ((k:Int)+1) (((k+1:Nat):Int))] [(1,Ac p),(2,pt z),(EN z),(Ia z),(9,i6 ((k+1:Nat):Int))] rfl ⟨BQ,Ae⟩ ?_
          refine BO (fun a w' hs=>⟨(Ey c p).Ap.xs.length - (k+1),by omega,n67,(k+1),rfl,by omega,by omega,EP hg (by unfold J5;rw[eQ,h69];rfl),hs⟩)
         have hd71:=FI h69
         refine CU [(11,(ov (.bool true)))] [1,2,5,6,9,102] [Value.bool (!(win y65.Channel 0 ((c.Aj.xs.length:Int) - 1)))=Value.bool true] (D7 12 0) [(1,Ac p),(2,pt z),(EN z),(Ia z),(9,Ac k),(102,.bool true)] ⟨by simp[h69],Ae⟩ ?_
         refine CO ?_
         refine q_o 7 0 [1] [[o0,o0,o0,o0,(an 2 2)]] [Qb (z+1),Qb (z+1)] [(EN z),(4,i6 414)] ⟨w,n67,[(Ak w),(Lp z c),(bk (z+1) #[(Ac p),Ac k] 38),(LM z y8)]⟩ rfl ⟨rfl,rfl,Ae⟩ ?_
         refine Az [.at 2,.at 2] [Qb (z+1),Qb (z+1)] (.tuple #[i6 414,.agg #[(Ac p),Ac k]]) ⟨rfl,rfl,Ae⟩ ?_
         intro w72 hw72
         have hq:CP c p=⟨414,⟨(p:Int),(k:Int)⟩⟩:=(partQ_q hB0 hE0 hg (by omega) (by unfold J5;rw[eQ];exact unl_no (by decide) (by simpa using h69))).trans (by unfold J5;rw[eQ,show win y65.Channel 0 ((c.Aj.xs.length:Nat) - 1)=false from by simpa using h69];rfl)
         exact⟨congrArg (fun t:Am=>Ending.returned (.tuple #[i6 t.e,.agg #[i6 t.Ag.First,i6 t.Ag.Second]])) hq.symm,AA hw72⟩
        refine Au 14 0 [0] [[o0,o0,(a1 3),o0,oF],[o0,o0,(an 2 2)]] [Qb (z+2),BF ((k:Int)<(y8.Ap.xs.length:Int)),Qb (z+1),Qb (z+1)] [(EN z),(4,i6 0)] rfl ⟨rfl,bf,rfl,rfl,Ae⟩ ?_
        refine Az [.at 2,.at 2] [Qb (z+1),Qb (z+1)] (.tuple #[i6 0,.agg #[i6 0,i6 0]]) ⟨rfl,rfl,Ae⟩ ?_
        intro w73 hw73
        have hq:CP c p=⟨0,⟨0,0⟩⟩:=(partQ_f hB0 hE0 (fun a ha=>hg a (by omega))).trans rfl
        exact⟨congrArg (fun t:Am=>Ending.returned (.tuple #[i6 t.e,.agg #[i6 t.Ag.First,i6 t.Ag.Second]])) hq.symm,AA hw73⟩
       refine Bq 5 1 [1] [[(ov (.bool true))],[o0]] [Value.bool (!(Ns y8))=Value.bool true] [(EN z),(76,Ac p)] rfl ⟨by simp[h49],Ae⟩ ?_
       refine AY 24 #[(Ac p)] (some 77) (.agg #[(Ac p),i6 (-1)]) (fun w74 hw74=>JJ w74 (p:Int)) (fun n75 (hn76:n47≤n75) => ?_)
       refine F8 3 0 [] [[o0,(an 2 2)]] [Qb (z+1),Qb (z+1)] [(EN z),(4,i6 412)] ⟨w,n75,[(Ak w),(Lp z c),(SB z p),(LM z y8)]⟩ rfl ⟨rfl,rfl,Ae⟩ ?_
       refine Az [.at 2,.at 2] [Qb (z+1),Qb (z+1)] (.tuple #[i6 412,.agg #[(Ac p),i6 (-1)]]) ⟨rfl,rfl,Ae⟩ ?_
       intro w77 hw77
       have hq:CP c p=⟨412,⟨(p:Int), -1⟩⟩:=(partQ_e hB0 (by unfold HY;simp only[eP];rw[show(win y8.Entry 0 4095&&Gt y8)=false from by simpa[Ns]using h49];(try simp[AV,Af,AQ]))).trans (by unfold HY;simp only[eP];rw[show(win y8.Entry 0 4095&&Gt y8)=false from by simpa[Ns]using h49];(try simp[AV,Af,AQ]))
       exact⟨congrArg (fun t:Am=>Ending.returned (.tuple #[i6 t.e,.agg #[i6 t.Ag.First,i6 t.Ag.Second]])) hq.symm,AA hw77⟩
      have hd78:=FI h36
      refine Bq 5 1 [1] [[(ov (.bool true)),o0],[o0]] [Value.bool (!(win (y8.Ah.xs.length:Int) 1 8))=Value.bool true] [(EN z),(54,Ac p)] rfl ⟨by simp[h36],Ae⟩ ?_
      refine AY 24 #[(Ac p)] (some 55) (.agg #[(Ac p),i6 (-1)]) (fun w79 hw79=>JJ w79 (p:Int)) (fun n80 (hn81:n34≤n80) => ?_)
      refine F8 3 0 [] [[o0,(an 2 2)]] [Qb (z+1),Qb (z+1)] [(EN z),(4,i6 408)] ⟨w,n80,[(Ak w),(Lp z c),(SB z p),(LM z y8)]⟩ rfl ⟨rfl,rfl,Ae⟩ ?_
      refine Az [.at 2,.at 2] [Qb (z+1),Qb (z+1)] (.tuple #[i6 408,.agg #[(Ac p),i6 (-1)]]) ⟨rfl,rfl,Ae⟩ ?_
      intro w82 hw82
      have hq:CP c p=⟨408,⟨(p:Int), -1⟩⟩:=(TK (by unfold Gw;simp only[eP];(try simp[AV,Af,AQ,h12,h16,h21,h26,h31,h36]))).trans (by unfold Gw;simp only[eP];(try simp[AV,Af,AQ,h12,h16,h21,h26,h31,h36]))
      exact⟨congrArg (fun t:Am=>Ending.returned (.tuple #[i6 t.e,.agg #[i6 t.Ag.First,i6 t.Ag.Second]])) hq.symm,AA hw82⟩
     have hd83:=FI h31
     refine Bq 5 1 [1] [[(ov (.bool true)),o0,o0],[o0]] [Value.bool (!(win y8.Bv 0 16))=Value.bool true] [(EN z),(46,Ac p)] rfl ⟨by simp[h31],Ae⟩ ?_
     refine AY 24 #[(Ac p)] (some 47) (.agg #[(Ac p),i6 (-1)]) (fun w84 hw84=>JJ w84 (p:Int)) (fun n85 (hn86:n29≤n85) => ?_)
     refine F8 3 0 [] [[o0,(an 2 2)]] [Qb (z+1),Qb (z+1)] [(EN z),(4,i6 407)] ⟨w,n85,[(Ak w),(Lp z c),(SB z p),(LM z y8)]⟩ rfl ⟨rfl,rfl,Ae⟩ ?_
     refine Az [.at 2,.at 2] [Qb (z+1),Qb (z+1)] (.tuple #[i6 407,.agg #[(Ac p),i6 (-1)]]) ⟨rfl,rfl,Ae⟩ ?_
     intro w87 hw87
     have hq:CP c p=⟨407,⟨(p:Int), -1⟩⟩:=(TK (by unfold Gw;simp only[eP];(try simp[AV,Af,AQ,h12,h16,h21,h26,h31]))).trans (by unfold Gw;simp only[eP];(try simp[AV,Af,AQ,h12,h16,h21,h26,h31]))
     exact⟨congrArg (fun t:Am=>Ending.returned (.tuple #[i6 t.e,.agg #[i6 t.Ag.First,i6 t.Ag.Second]])) hq.symm,AA hw87⟩
    have hd88:=FI h26
    refine Bq 5 1 [1] [[(ov (.bool true)),o0,o0,o0],[o0]] [Value.bool (!(win y8.Fa 0 16))=Value.bool true] [(EN z),(46,Ac p)] rfl ⟨by simp[h26],Ae⟩ ?_
    refine AY 24 #[(Ac p)] (some 47) (.agg #[(Ac p),i6 (-1)]) (fun w89 hw89=>JJ w89 (p:Int)) (fun n90 (hn91:n24≤n90) => ?_)
    refine F8 3 0 [] [[o0,(an 2 2)]] [Qb (z+1),Qb (z+1)] [(EN z),(4,i6 407)] ⟨w,n90,[(Ak w),(Lp z c),(SB z p),(LM z y8)]⟩ rfl ⟨rfl,rfl,Ae⟩ ?_
    refine Az [.at 2,.at 2] [Qb (z+1),Qb (z+1)] (.tuple #[i6 407,.agg #[(Ac p),i6 (-1)]]) ⟨rfl,rfl,Ae⟩ ?_
    intro w92 hw92
    have hq:CP c p=⟨407,⟨(p:Int), -1⟩⟩:=(TK (by unfold Gw;simp only[eP];(try simp[AV,Af,AQ,h12,h16,h21,h26]))).trans (by unfold Gw;simp only[eP];(try simp[AV,Af,AQ,h12,h16,h21,h26]))
    exact⟨congrArg (fun t:Am=>Ending.returned (.tuple #[i6 t.e,.agg #[i6 t.Ag.First,i6 t.Ag.Second]])) hq.symm,AA hw92⟩
   have hd93:=FI h21
   refine Bq 5 1 [1] [[(ov (.bool true)),o0,o0],[o0]] [Value.bool (!(win y8.Bo 0 15))=Value.bool true] [(EN z),(33,Ac p)] rfl ⟨by simp[h21],Ae⟩ ?_
   refine AY 24 #[(Ac p)] (some 34) (.agg #[(Ac p),i6 (-1)]) (fun w94 hw94=>JJ w94 (p:Int)) (fun n95 (hn96:n19≤n95) => ?_)
   refine F8 3 0 [] [[o0,(an 2 2)]] [Qb (z+1),Qb (z+1)] [(EN z),(4,i6 406)] ⟨w,n95,[(Ak w),(Lp z c),(SB z p),(LM z y8)]⟩ rfl ⟨rfl,rfl,Ae⟩ ?_
   refine Az [.at 2,.at 2] [Qb (z+1),Qb (z+1)] (.tuple #[i6 406,.agg #[(Ac p),i6 (-1)]]) ⟨rfl,rfl,Ae⟩ ?_
   intro w97 hw97
   have hq:CP c p=⟨406,⟨(p:Int), -1⟩⟩:=(TK (by unfold Gw;simp only[eP];(try simp[AV,Af,AQ,h12,h16,h21]))).trans (by unfold Gw;simp only[eP];(try simp[AV,Af,AQ,h12,h16,h21]))
   exact⟨congrArg (fun t:Am=>Ending.returned (.tuple #[i6 t.e,.agg #[i6 t.Ag.First,i6 t.Ag.Second]])) hq.symm,AA hw97⟩
  have hd98:=FI h16
  refine Bq 5 1 [1] [[(ov (.bool true)),o0,o0,o0],[o0]] [Value.bool (!(win y8.FQ 0 2))=Value.bool true] [(EN z),(33,Ac p)] rfl ⟨by simp[h16],Ae⟩ ?_
  refine AY 24 #[(Ac p)] (some 34) (.agg #[(Ac p),i6 (-1)]) (fun w99 hw99=>JJ w99 (p:Int)) (fun n100 (hn101:n14≤n100) => ?_)
  refine F8 3 0 [] [[o0,(an 2 2)]] [Qb (z+1),Qb (z+1)] [(EN z),(4,i6 406)] ⟨w,n100,[(Ak w),(Lp z c),(SB z p),(LM z y8)]⟩ rfl ⟨rfl,rfl,Ae⟩ ?_
  refine Az [.at 2,.at 2] [Qb (z+1),Qb (z+1)] (.tuple #[i6 406,.agg #[(Ac p),i6 (-1)]]) ⟨rfl,rfl,Ae⟩ ?_
  intro w102 hw102
  have hq:CP c p=⟨406,⟨(p:Int), -1⟩⟩:=(TK (by unfold Gw;simp only[eP];(try simp[AV,Af,AQ,h12,h16]))).trans (by unfold Gw;simp only[eP];(try simp[AV,Af,AQ,h12,h16]))
  exact⟨congrArg (fun t:Am=>Ending.returned (.tuple #[i6 t.e,.agg #[i6 t.Ag.First,i6 t.Ag.Second]])) hq.symm,AA hw102⟩
 refine Bq 5 1 [1] [[(ov (.bool true)),o0],[o0]] [Value.bool (!(AO c p))=Value.bool true] [(EN z),(20,Ac p)] rfl ⟨by simp[h12],Ae⟩ ?_
 refine AY 24 #[(Ac p)] (some 21) (.agg #[(Ac p),i6 (-1)]) (fun w103 hw103=>JJ w103 (p:Int)) (fun n104 (hn105:n10≤n104) => ?_)
 refine F8 3 0 [] [[o0,(an 2 2)]] [Qb (z+1),Qb (z+1)] [(EN z),(4,i6 405)] ⟨w,n104,[(Ak w),(Lp z c),(SB z p),(LM z y8)]⟩ rfl ⟨rfl,rfl,Ae⟩ ?_
 refine Az [.at 2,.at 2] [Qb (z+1),Qb (z+1)] (.tuple #[i6 405,.agg #[(Ac p),i6 (-1)]]) ⟨rfl,rfl,Ae⟩ ?_
 intro w106 hw106
 have hq:CP c p=⟨405,⟨(p:Int), -1⟩⟩:=(TK (by unfold Gw;simp only[eP];(try simp[AV,Af,AQ,h12]))).trans (by unfold Gw;simp only[eP];(try simp[AV,Af,AQ,h12]))
 exact⟨congrArg (fun t:Am=>Ending.returned (.tuple #[i6 t.e,.agg #[i6 t.Ag.First,i6 t.Ag.Second]])) hq.symm,AA hw106⟩
end Go.Proofs.YtjdmhijaanmccaaDoor.Ad
namespace Go.Proofs.YtjdmhijaanmccaaDoor.Ly
open Go Go.Proofs.YtjdmhijaanmccaaDoor.Eng Go.Proofs.YtjdmhijaanmccaaDoor.Mem
set_option linter.unusedSimpArgs false
set_option linter.unusedVariables false
set_option maxRecDepth 100000
def touchR(t:Nat)(g:BB):Bool:=decide (g.Bg / 16≤(t:Int)∧(t:Int)≤(g.Bg+g.AL - 1) / 16)
def Ip(x:Ar)(t:Nat):Bool:=x.Ah.xs.any (touchR t)
theorem any_yes{α:Type}[Inhabited α]{p:α→Bool}{xs:List α}{k:Nat}(hk:k<xs.length)(h:p (gd xs k)=true):xs.any p=true:=by
 rw[List.any_eq_true];rw[Gv hk]at h;exact⟨xs[k],List.getElem_mem hk,h⟩
theorem Vj{α:Type}[Inhabited α]{p:α→Bool}{xs:List α}(h:∀ i,i<xs.length→p (gd xs i)=false):xs.any p=false:=by
 rw[List.any_eq_false]
 intro y hy
 obtain⟨i,hi,rfl⟩:=List.getElem_of_mem hy
 have:=h i hi
 rw[Gv hi]at this
 simp[this]
theorem touch_tab{x:Ar}(hr:∀ i,i<x.Ah.xs.length→Kw (gd x.Ah.xs i)=true)(t:Nat):Ip x t=(Gf x x.Ah.xs.length).contains t:=by
 rw[Bool.eq_iff_iff]
 unfold Ip Gf O4
 simp only[List.any_eq_true,List.contains_iff_mem,List.mem_flatMap,List.mem_range,List.mem_map,touchR,decide_eq_true_eq]
 constructor
 ·rintro⟨g,hg,h1,h2⟩
  obtain⟨i,hi,rfl⟩:=List.getElem_of_mem hg
  have h3:=hr i hi
  unfold Kw at h3
  rw[decide_eq_true_eq]at h3
  rw[Gv hi]at h3
  refine⟨i,hi, ?_⟩
  rw[Gv hi]
  by_cases hp:x.Ah.xs[i].Bg≤16*(t:Int)
  ·exact⟨(16*(t:Int) - x.Ah.xs[i].Bg).toNat,by omega,by omega⟩
  exact⟨0,by omega,by omega⟩
 rintro⟨i,hi,k,hk,h⟩
 have h3:=hr i hi
 unfold Kw at h3
 rw[decide_eq_true_eq]at h3
 refine⟨gd x.Ah.xs i,by rw[Gv hi];exact List.getElem_mem hi,by omega,by omega⟩
theorem YP{c:Ai}{k:Int}{b:Bool}(i:Nat):∀ (n:Nat),i≤n→∃ r,Dj c k b n=Dj c k b i++r
 | 0,h=>⟨[],by rw[Nat.le_zero.1 h];simp⟩
 | n+1,h=>by
  by_cases e:i=n+1
  ·exact⟨[],by rw[e];simp⟩
  obtain⟨r,hr⟩:=YP (c:=c) (k:=k) (b:=b) i n (by omega)
  exact⟨_,by rw[LY,hr,List.append_assoc]⟩
theorem Wq{p:Nat}{x:Ar}{k:Int}{b:Bool}(j:Nat):∀ (n:Nat),j≤n→∃ r,CQ p x k b n=CQ p x k b j++r
 | 0,h=>⟨[],by rw[Nat.le_zero.1 h];simp⟩
 | n+1,h=>by
  by_cases e:j=n+1
  ·exact⟨[],by rw[e];simp⟩
  obtain⟨r,hr⟩:=Wq (p:=p) (x:=x) (k:=k) (b:=b) j n (by omega)
  cases hs:IW k b (gd x.Ap.xs n)
  ·exact⟨r,by rw[Le hs,hr]⟩
  exact⟨_,by rw[Ph hs,hr,List.append_assoc]⟩
theorem first_end{c:Ai}{k:Int}{b:Bool}{i j:Nat}(hi:i<c.Aa.xs.length)(hj:j<(gd c.Aa.xs i).Ap.xs.length)(h1:Dj c k b i=[])(h2:CQ i (gd c.Aa.xs i) k b j=[])(h3:IW k b (gd (gd c.Aa.xs i).Ap.xs j)=true):gd (Cj c k b) 0=⟨(i:Int),(j:Int)⟩:=by
 obtain⟨r1,e1⟩:=YP (c:=c) (k:=k) (b:=b) (i+1) c.Aa.xs.length (by omega)
 obtain⟨r2,e2⟩:=Wq (p:=i) (x:=gd c.Aa.xs i) (k:=k) (b:=b) (j+1) (gd c.Aa.xs i).Ap.xs.length (by omega)
 unfold Cj
 rw[e1,LY,h1,e2,Ph h3,h2]
 simp[gd]
theorem no_end{c:Ai}{k:Int}{b:Bool}(h:Cj c k b=[]):gd (Cj c k b) 0=⟨0,0⟩:=by rw[h];rfl
section
variable (x:Ar)
abbrev U2:=(10,Ac x.Ah.xs.length)
end
theorem touches_calls(w:World)(x:Ar)(t:Nat)(ht:t<16)(hx:Ar.ok Any w x)(hr:∀ i,i<x.Ah.xs.length→Kw (gd x.Ah.xs i)=true):Calls Tryd.prog 57 #[.agg (Ar.arr x),.int .i64 (t:Int)] w fun e w'=>e = .returned (.bool (Ip x t))∧CE (fun _=>False) w w':=by
 obtain⟨z,hz⟩:∃ z,z=w.heap.size:=⟨_,rfl⟩
 refine Cb (args:=[.agg (Ar.arr x),Ac t]) 40 ⟨w,z,[(Ak w)]⟩ Tryd.func57 rfl (by kernel_rfl) (by kernel_rfl) (Em hz) ?_
 have hlR:=hx.Ah.1.len
 refine DI [0,1] [(0,.agg (Ar.arr x)),(1,Ac t)] ?_
 refine q_c 10 0 [] [[o0,o0],[o0,(a1 1),o0,o0]] [Qb z] [(1,Ac t),(2,pt z),(U2 x),(11,i6 0)] ⟨w,z+1,[(Ak w),(bk z (Ar.arr x) 52)]⟩ rfl ⟨rfl,Ae⟩ ?_
 refine Du (fun m a w'=>∃ (n2:Nat) (i:Nat),m=x.Ah.xs.length - i∧z+1≤n2∧(i≤x.Ah.xs.length)∧(∀ q,q<i→touchR t (gd x.Ah.xs q)=false)∧St 40 [(1,Ac t),(2,pt z),(U2 x),(11,Ac i)] [] ⟨w,n2,[(Ak w),(bk z (Ar.arr x) 52)]⟩ a w') (x.Ah.xs.length - 0) ?_ ?_
 ·intro a w' hs;exact⟨(z+1),0,rfl,Nat.le_refl _,Nat.zero_le _,fun q hq=>absurd hq (Nat.not_lt_zero q),hs⟩
 rintro m a w' ⟨n2,i,rfl,hn1,hki,hq0,hs⟩
 refine(?_:G Tryd.prog 40 [(1,Ac t),(2,pt z),(U2 x),(11,Ac i)] [] ⟨w,n2,[(Ak w),(bk z (Ar.arr x) 52)]⟩ _ _ _) a w' hs
 clear hs a w'
 refine CB ?_
 by_cases h3:(i:Int)<(x.Ah.xs.length:Int)
 ·refine Au 14 0 [1] [[oT],[o0,o0]] [BT ((i:Int)<(x.Ah.xs.length:Int))] [(1,Ac t),(2,pt z),(U2 x),(11,Ac i),(5,Ac i)] rfl ⟨bt,Ae⟩ ?_
  obtain⟨b4,o5,ha6,hF8,hc7⟩:=(hx.Ah).1.all (show 0<x.Ah.xs.length by omega)
  replace ha6:x.Ah.a=some ⟨b4,o5,none⟩:=ha6
  have hc9:=hc7 i (show i<x.Ah.xs.length by omega)
  have he10:=(hx.Ah).2 i (show i<x.Ah.xs.length by omega)
  obtain⟨y11,hy11⟩:∃ y_,y_=gd x.Ah.xs i:=⟨_,rfl⟩
  rw[←hy11]at he10 hc9
  have hrg:=hr i (by omega);rw[←hy11]at hrg;unfold Kw at hrg;rw[decide_eq_true_eq]at hrg
  refine Au 8 0 [] [[o0,(E8 1 b4 o5 x.Ah),o0,(oi i),o0,(oa [.via 0 (i6 y11.Bg)]),o0],[o0,o0,(E8 1 b4 o5 x.Ah),o0,(oi i),o0,(oa [.via 0 (i6 y11.AL)]),(ov (i6 (y11.Bg+y11.AL))),(ov (i6 ((y11.Bg+y11.AL) - 1))),o0]] [Qb z,DZ b4 o5 x.Ah,CW i,i<x.Ah.xs.length,Ce,Old w b4 (o5+i*4) (i6 y11.Bg),Qb z,DZ b4 o5 x.Ah,CW i,i<x.Ah.xs.length,Ce,Old w b4 (o5+i*4+1) (i6 y11.AL),Wr ((y11.Bg:Int)+y11.AL) (y11.Bg+y11.AL),Wr ((y11.Bg+y11.AL:Int) - 1) ((y11.Bg+y11.AL) - 1)] [(1,Ac t),(2,pt z),(U2 x),(11,Ac i),(6,i6 y11.Bg),(7,i6 ((y11.Bg+y11.AL) - 1))] rfl ⟨rfl,Ea ha6,rfl,(by omega),rfl,Aw (hc9 0 _ rfl),rfl,Ea ha6,rfl,(by omega),rfl,Aw (hc9 1 _ rfl),BQ,BQ,Ae⟩ ?_
  by_cases h12:(t:Int)<y11.Bg / 16
  ·refine Au 9 0 [0] [[o0,(ov (i6 (y11.Bg / 16))),o0,oF,o0,o0],[(ov (i6 ((i+1:Nat):Int))),o0]] [Wr (Int.tdiv (y11.Bg) 16) (y11.Bg / 16),BF ((y11.Bg / 16:Int)≤(t:Int)),Wr ((i:Int)+1) (((i+1:Nat):Int))] [(1,Ac t),(2,pt z),(U2 x),(11,i6 ((i+1:Nat):Int))] rfl ⟨congrArg (Value.int .i64) (Ob (by omega) (by omega) (by omega)),bf,BQ,Ae⟩ ?_
   refine BO (fun a w' hs=>⟨x.Ah.xs.length - (i+1),by omega,n2,(i+1),rfl,by omega,by omega,upto hq0 (by rw[←hy11];exact decide_eq_false (by omega)),hs⟩)
  by_cases h13:(((y11.Bg+y11.AL) - 1) / 16:Int)<(t:Int)
  ·refine Au 9 0 [0] [[o0,(ov (i6 (y11.Bg / 16))),o0,oT,o0,o0,o0,(ov (i6 (((y11.Bg+y11.AL) - 1) / 16))),oF,o0],[(ov (i6 ((i+1:Nat):Int))),o0]] [Wr (Int.tdiv (y11.Bg) 16) (y11.Bg / 16),BT ((y11.Bg / 16:Int)≤(t:Int)),Wr (Int.tdiv ((y11.Bg+y11.AL) - 1) 16) (((y11.Bg+y11.AL) - 1) / 16),BF ((t:Int)≤(((y11.Bg+y11.AL) - 1) / 16)),Wr ((i:Int)+1) (((i+1:Nat):Int))] [(1,Ac t),(2,pt z),(U2 x),(11,i6 ((i+1:Nat):Int))] rfl ⟨congrArg (Value.int .i64) (Ob (by omega) (by omega) (by omega)),bt,congrArg (Value.int .i64) (Ob (by omega) (by omega) (by omega)),bf,BQ,Ae⟩ ?_
   refine BO (fun a w' hs=>⟨x.Ah.xs.length - (i+1),by omega,n2,(i+1),rfl,by omega,by omega,upto hq0 (by rw[←hy11];exact decide_eq_false (by omega)),hs⟩)
  refine Au 9 0 [1] [[o0,(ov (i6 (y11.Bg / 16))),o0,oT,o0,o0,o0,(ov (i6 (((y11.Bg+y11.AL) - 1) / 16))),oT,o0],[o0]] [Wr (Int.tdiv (y11.Bg) 16) (y11.Bg / 16),BT ((y11.Bg / 16:Int)≤(t:Int)),Wr (Int.tdiv ((y11.Bg+y11.AL) - 1) 16) (((y11.Bg+y11.AL) - 1) / 16),BT ((t:Int)≤(((y11.Bg+y11.AL) - 1) / 16))] [(4,.bool true)] rfl ⟨congrArg (Value.int .i64) (Ob (by omega) (by omega) (by omega)),bt,congrArg (Value.int .i64) (Ob (by omega) (by omega) (by omega)),bt,Ae⟩ ?_
  refine Az [] [] (.bool true) Ae ?_
  intro w14 hw14
  refine⟨congrArg (fun b=>Ending.returned (Value.bool b)) (Eq.symm (?_:Ip x t=true)),AA hw14⟩
  exact any_yes (k:=i) (by omega) (by rw[←hy11];exact decide_eq_true ⟨by omega,by omega⟩)
 refine Au 15 0 [0] [[oF],[o0]] [BF ((i:Int)<(x.Ah.xs.length:Int))] [(4,.bool false)] rfl ⟨bf,Ae⟩ ?_
 refine Az [] [] (.bool false) Ae ?_
 intro w15 hw15
 refine⟨congrArg (fun b=>Ending.returned (Value.bool b)) (Eq.symm (?_:Ip x t=false)),AA hw15⟩
 exact Vj (fun q hq=>hq0 q (by omega))
section
variable (z:Nat)(c:Ai)(y11:Ar)
abbrev WW:=bk z (Ai.arr c) 26
abbrev O3:=(10,Ac c.Aa.xs.length)
abbrev Ux:=(20,Ac y11.Ap.xs.length)
end
theorem source_calls(w:World)(c:Ai)(ch:Int)(hc:Ai.ok Any w c):Calls Tryd.prog 31 #[.agg (Ai.arr c),.int .i64 ch] w fun e w'=>e = .returned (.tuple #[.int .i64 (gd (Cj c ch true) 0).partition,.int .i64 (gd (Cj c ch true) 0).port])∧CE (fun _=>False) w w':=by
 obtain⟨z,hz⟩:∃ z,z=w.heap.size:=⟨_,rfl⟩
 refine Cb (args:=[.agg (Ai.arr c),i6 ch]) 52 ⟨w,z,[(Ak w)]⟩ Tryd.func31 rfl (by kernel_rfl) (by kernel_rfl) (Em hz) ?_
 have hlP:=hc.Aa.1.len
 refine DI [0,1] [(0,.agg (Ai.arr c)),(1,i6 ch)] ?_
 refine q_c 10 0 [] [[o0,o0,o0],[o0,(a1 1),o0,o0]] [Qb z] [(1,i6 ch),(2,pt z),(O3 c),(11,i6 0)] ⟨w,z+1,[(Ak w),(WW z c)]⟩ rfl ⟨rfl,Ae⟩ ?_
 refine Du (fun m a w'=>∃ (n2:Nat) (i:Nat),m=c.Aa.xs.length - i∧z+1≤n2∧(i≤c.Aa.xs.length)∧(Dj c ch true i=[])∧St 52 [(1,i6 ch),(2,pt z),(O3 c),(11,Ac i)] [] ⟨w,n2,[(Ak w),(WW z c)]⟩ a w') (c.Aa.xs.length - 0) ?_ ?_
 ·intro a w' hs;exact⟨(z+1),0,rfl,Nat.le_refl _,Nat.zero_le _,rfl,hs⟩
 rintro m a w' ⟨n2,i,rfl,hn1,hki,heu,hs⟩
 refine(?_:G Tryd.prog 52 [(1,i6 ch),(2,pt z),(O3 c),(11,Ac i)] [] ⟨w,n2,[(Ak w),(WW z c)]⟩ _ _ _) a w' hs
 clear hs a w'
 refine CB ?_
 by_cases h3:(i:Int)<(c.Aa.xs.length:Int)
 ·refine Au 14 0 [1] [[oT],[o0,o0]] [BT ((i:Int)<(c.Aa.xs.length:Int))] [(1,i6 ch),(2,pt z),(O3 c),(11,Ac i),(6,Ac i)] rfl ⟨bt,Ae⟩ ?_
  obtain⟨b4,o5,ha6,hF8,hc7⟩:=(hc.Aa).1.all (show 0<c.Aa.xs.length by omega)
  replace ha6:c.Aa.a=some ⟨b4,o5,none⟩:=ha6
  have hc9:=hc7 i (show i<c.Aa.xs.length by omega)
  have he10:=(hc.Aa).2 i (show i<c.Aa.xs.length by omega)
  obtain⟨y11,hy11⟩:∃ y_,y_=gd c.Aa.xs i:=⟨_,rfl⟩
  rw[←hy11]at he10 hc9
  refine Au 4 0 [] [[o0,(E8 1 b4 o5 c.Aa),o0,(oi i),o0,(oa [.via 0 (.slice y11.Ap.a y11.Ap.xs.length y11.Ap.cap)]),o0,o0]] [Qb z,DZ b4 o5 c.Aa,CW i,i<c.Aa.xs.length,Ce,Old w b4 (o5+i*8+7) (.slice y11.Ap.a y11.Ap.xs.length y11.Ap.cap)] [(1,i6 ch),(2,pt z),(6,Ac i),(O3 c),(11,Ac i),(Ux y11),(21,i6 0)] rfl ⟨rfl,Ea ha6,rfl,(by omega),rfl,Aw (hc9 7 _ rfl),Ae⟩ ?_
  refine Du (fun m a w'=>∃ (n13:Nat) (j:Nat),m=y11.Ap.xs.length - j∧n2≤n13∧(j≤y11.Ap.xs.length)∧(CQ i y11 ch true j=[])∧St 52 [(1,i6 ch),(2,pt z),(6,Ac i),(O3 c),(11,Ac i),(Ux y11),(21,Ac j)] [] ⟨w,n13,[(Ak w),(WW z c)]⟩ a w') (y11.Ap.xs.length - 0) ?_ ?_
  ·intro a w' hs;exact⟨n2,0,rfl,Nat.le_refl _,Nat.zero_le _,rfl,hs⟩
  rintro m a w' ⟨n13,j,rfl,hn12,hkj,hpe,hs⟩
  refine(?_:G Tryd.prog 52 [(1,i6 ch),(2,pt z),(6,Ac i),(O3 c),(11,Ac i),(Ux y11),(21,Ac j)] [] ⟨w,n13,[(Ak w),(WW z c)]⟩ _ _ _) a w' hs
  clear hs a w'
  have hlp:=he10.Ap.1.len
  refine CB ?_
  by_cases h14:(j:Int)<(y11.Ap.xs.length:Int)
  ·refine Au 14 0 [1] [[oT],[o0,o0]] [BT ((j:Int)<(y11.Ap.xs.length:Int))] [(1,i6 ch),(2,pt z),(6,Ac i),(O3 c),(11,Ac i),(Ux y11),(21,Ac j),(7,Ac j)] rfl ⟨bt,Ae⟩ ?_
   obtain⟨b15,o16,ha17,hF19,hc18⟩:=(he10.Ap).1.all (show 0<y11.Ap.xs.length by omega)
   replace ha17:y11.Ap.a=some ⟨b15,o16,none⟩:=ha17
   have hc20:=hc18 j (show j<y11.Ap.xs.length by omega)
   have he21:=(he10.Ap).2 j (show j<y11.Ap.xs.length by omega)
   obtain⟨y22,hy22⟩:∃ y_,y_=gd y11.Ap.xs j:=⟨_,rfl⟩
   rw[←hy22]at he21 hc20
   by_cases h23:(y22.Channel:Int)=ch
   ·refine Au 3 0 [] [[o0,(E8 1 b4 o5 c.Aa),o0,(oi i),o0,⟨.auto [.via 0 (.slice y11.Ap.a y11.Ap.xs.length y11.Ap.cap)],some (.slice (some ⟨b15,o16,none⟩) y11.Ap.xs.length y11.Ap.cap)⟩,o0,(oi j),o0,(oa [.via 0 (i6 y22.Channel)]),o0,oT,o0,o0,(E8 1 b4 o5 c.Aa),o0,(oi i),o0,⟨.auto [.via 0 (.slice y11.Ap.a y11.Ap.xs.length y11.Ap.cap)],some (.slice (some ⟨b15,o16,none⟩) y11.Ap.xs.length y11.Ap.cap)⟩,o0,(oi j),o0,(oa [.via 0 (.bool y22.Source)]),o0]] [Qb z,DZ b4 o5 c.Aa,CW i,i<c.Aa.xs.length,Ce,Old w b4 (o5+i*8+7) (.slice y11.Ap.a y11.Ap.xs.length y11.Ap.cap),DZ b15 o16 y11.Ap,CW j,j<y11.Ap.xs.length,Ce,Old w b15 (o16+j*2) (i6 y22.Channel),ET y22.Channel ch,Qb z,DZ b4 o5 c.Aa,CW i,i<c.Aa.xs.length,Ce,Old w b4 (o5+i*8+7) (.slice y11.Ap.a y11.Ap.xs.length y11.Ap.cap),DZ b15 o16 y11.Ap,CW j,j<y11.Ap.xs.length,Ce,Old w b15 (o16+j*2+1) (.bool y22.Source)] [(1,i6 ch),(2,pt z),(6,Ac i),(O3 c),(11,Ac i),(Ux y11),(21,Ac j),(7,Ac j),(47,.bool y22.Source)] rfl ⟨rfl,Ea ha6,rfl,(by omega),rfl,Aw (hc9 7 _ rfl),Ea ha17,rfl,(by omega),rfl,Aw (hc20 0 _ rfl),et,rfl,Ea ha6,rfl,(by omega),rfl,Aw (hc9 7 _ rfl),Ea ha17,rfl,(by omega),rfl,Aw (hc20 1 _ rfl),Ae⟩ ?_
    by_cases h24:y22.Source=true
    ·refine Au 6 0 [3] [[o0,o0,o0,o0]] [Value.bool y22.Source=Value.bool true] [(4,Ac i),(5,Ac j)] rfl ⟨(congrArg Value.bool h24),Ae⟩ ?_
     refine Az [] [] (.tuple #[(Ac i),Ac j]) Ae ?_
     intro w25 hw25
     have hg:=first_end (i:=i) (j:=j) (by omega) (by rw[←hy11];omega) heu (by rw[←hy11];exact hpe) (by rw[←hy11,←hy22];exact Xk (by omega) (by revert h24;cases y22.Source <;> simp))
     refine⟨?_,AA hw25⟩
     rw[hg]
    refine Au 6 0 [2] [[(ov (i6 ((j+1:Nat):Int))),o0]] [Value.bool y22.Source=Value.bool false,Wr ((j:Int)+1) (((j+1:Nat):Int))] [(1,i6 ch),(2,pt z),(6,Ac i),(O3 c),(11,Ac i),(Ux y11),(21,i6 ((j+1:Nat):Int))] rfl ⟨(congrArg Value.bool (Bool.eq_false_iff.2 h24)),BQ,Ae⟩ ?_
    refine BO (fun a w' hs=>⟨y11.Ap.xs.length - (j+1),by omega,n13,(j+1),rfl,by omega,by omega,by rw[Le (by rw[←hy22];exact UO (by revert h24;cases y22.Source <;> simp))];exact hpe,hs⟩)
   refine Au 9 0 [0] [[o0,(E8 1 b4 o5 c.Aa),o0,(oi i),o0,⟨.auto [.via 0 (.slice y11.Ap.a y11.Ap.xs.length y11.Ap.cap)],some (.slice (some ⟨b15,o16,none⟩) y11.Ap.xs.length y11.Ap.cap)⟩,o0,(oi j),o0,(oa [.via 0 (i6 y22.Channel)]),o0,oF,o0,o0],[(ov (i6 ((j+1:Nat):Int))),o0]] [Qb z,DZ b4 o5 c.Aa,CW i,i<c.Aa.xs.length,Ce,Old w b4 (o5+i*8+7) (.slice y11.Ap.a y11.Ap.xs.length y11.Ap.cap),DZ b15 o16 y11.Ap,CW j,j<y11.Ap.xs.length,Ce,Old w b15 (o16+j*2) (i6 y22.Channel),EF y22.Channel ch,Wr ((j:Int)+1) (((j+1:Nat):Int))] [(1,i6 ch),(2,pt z),(6,Ac i),(O3 c),(11,Ac i),(Ux y11),(21,i6 ((j+1:Nat):Int))] rfl ⟨rfl,Ea ha6,rfl,(by omega),rfl,Aw (hc9 7 _ rfl),Ea ha17,rfl,(by omega),rfl,Aw (hc20 0 _ rfl),ef,BQ,Ae⟩ ?_
   refine BO (fun a w' hs=>⟨y11.Ap.xs.length - (j+1),by omega,n13,(j+1),rfl,by omega,by omega,by rw[Le (by rw[←hy22];exact Wl (by omega))];exact hpe,hs⟩)
  refine Au 13 0 [0] [[oF],[(ov (i6 ((i+1:Nat):Int))),o0]] [BF ((j:Int)<(y11.Ap.xs.length:Int)),Wr ((i:Int)+1) (((i+1:Nat):Int))] [(1,i6 ch),(2,pt z),(O3 c),(11,i6 ((i+1:Nat):Int))] rfl ⟨bf,BQ,Ae⟩ ?_
  refine BO (fun a w' hs=>⟨c.Aa.xs.length - (i+1),by omega,n13,(i+1),rfl,by omega,by omega,by rw[LY,heu,←hy11,show y11.Ap.xs.length=j by omega];exact hpe,hs⟩)
 refine Au 15 0 [0] [[oF],[o0,o0]] [BF ((i:Int)<(c.Aa.xs.length:Int))] [(4,i6 0),(5,i6 0)] rfl ⟨bf,Ae⟩ ?_
 refine Az [] [] (.tuple #[i6 0,i6 0]) Ae ?_
 intro w26 hw26
 have e0:i=c.Aa.xs.length:=by omega
 subst e0
 have hg:=no_end heu
 refine⟨?_,AA hw26⟩
 rw[hg]
structure BI where
 At:Int
 Size:Int
 AB:CY
 deriving Inhabited,DecidableEq
def BI.cells(x:BI):List Value:=[.int .i64 x.At]++[.int .i64 x.Size]++CY.cells x.AB
abbrev BI.arr(x:BI):Array Value:= #[.int .i64 x.At,.int .i64 x.Size,.int .i64 x.AB.Kind,.int .i64 x.AB.Index,.int .i64 x.AB.Port]
structure BI.ok(F:Nat→Prop)(W:World)(x:BI):Prop where
 At:IC .i64 x.At
 Size:IC .i64 x.Size
 AB:CY.ok F W x.AB
theorem BI.ok.ext{F F':Nat→Prop}{W W':World}(he:Ext F W W')(hF:∀ b,F b→F' b){x:BI}(h:BI.ok F W x):BI.ok F' W' x:=⟨h.At,h.Size,CY.ok.ext he hF h.AB⟩
def pcPart(c:Ai)(i:Nat):List BI:=[⟨CV c i,2,⟨3,(i:Int),0⟩⟩,⟨CV c i+2,17,⟨4,(i:Int),0⟩⟩,⟨CV c i+2+17,5,⟨5,(i:Int),0⟩⟩]
def Gq(c:Ai)(i:Nat):List BI:=[⟨16*c.Kernel,2,⟨2,0,0⟩⟩]++(List.range i).flatMap (pcPart c)
def V9(c:Ai)(k:Nat)(e:Gp)(j:Nat):BI:=⟨Iy c k j,portOf (gd c.Aj.xs k),⟨8,e.partition,e.port⟩⟩
def IL(c:Ai)(k:Nat)(l:List Gp):List BI:=(List.range l.length).map (fun j=>V9 c k (gd l j) j)
def V7(c:Ai)(k:Nat):List BI:=[⟨CX c k,2,⟨6,(k:Int),0⟩⟩,⟨CX c k+2,BL (gd c.Aj.xs k),⟨7,(k:Int),0⟩⟩]++IL c k (Cj c (k:Int) false)
def Iw(c:Ai)(k:Nat):List BI:=(List.range k).flatMap (V7 c)
def IQ(c:Ai)(p n:Nat):List BI:=(List.range n).map (fun(u:Nat)=>(⟨16*(Ec c p+(u:Int)),16,⟨9,(p:Int),0⟩⟩:BI))
def NI(c:Ai)(p:Nat):List BI:=(List.range p).flatMap (fun p=>IQ c p (1+Jr (gd c.Aa.xs p)))
def Df(c:Ai):List BI:=Gq c c.Aa.xs.length++Iw c c.Aj.xs.length++NI c c.Aa.xs.length
theorem Yq{c:Ai}{i:Nat}:Gq c (i+1)=Gq c i++[⟨CV c i,2,⟨3,(i:Int),0⟩⟩]++[⟨CV c i+2,17,⟨4,(i:Int),0⟩⟩]++[⟨CV c i+2+17,5,⟨5,(i:Int),0⟩⟩]:=by
 unfold Gq;rw[List.range_succ,List.flatMap_append];simp[pcPart]
theorem ZX{c:Ai}:∀ (i:Nat),(Gq c i).length=1+3*i
 | 0=>rfl
 | i+1=>by rw[Yq];simp[ZX i];omega
theorem UH{c:Ai}{k:Nat}{l:List Gp}:(IL c k l).length=l.length:=by simp[IL]
theorem pcDests_push{c:Ai}{k:Nat}{l:List Gp}{e:Gp}:IL c k (l++[e])=IL c k l++[V9 c k e l.length]:=by
 unfold IL
 rw[List.length_append,List.length_singleton,List.range_succ,List.map_append]
 congr 1
 ·refine List.map_congr_left fun j hj => ?_
  rw[gd_old (List.mem_range.1 hj)]
 simp only[List.map_cons,List.map_nil,gd_push]
theorem Yo{c:Ai}{k:Nat}:Iw c (k+1)=Iw c k++V7 c k:=by unfold Iw;rw[List.range_succ,List.flatMap_append];simp
theorem ZJ{c:Ai}(hf:Fine c):∀ (k:Nat),k≤c.Aj.xs.length→(Iw c k).length≤6*k
 | 0,_=>by simp[Iw]
 | k+1,h=>by
  have h1:=ZJ hf k (by omega)
  have h2:=hf.X7 (show k<c.Aj.xs.length by omega)
  unfold Kv at h2
  rw[Yo,V7,List.length_append,List.length_append,UH]
  simp only[List.length_cons,List.length_nil];omega
theorem UG{c:Ai}{p n:Nat}:IQ c p (n+1)=IQ c p n++[⟨16*(Ec c p+(n:Int)),16,⟨9,(p:Int),0⟩⟩]:=by unfold IQ;rw[List.range_succ,List.map_append];rfl
theorem YX{c:Ai}{p n:Nat}:(IQ c p n).length=n:=by simp[IQ]
theorem Yj{c:Ai}{p:Nat}:NI c (p+1)=NI c p++IQ c p (1+Jr (gd c.Aa.xs p)):=by unfold NI;rw[List.range_succ,List.flatMap_append];simp
theorem ZA{c:Ai}:∀ (p:Nat),(NI c p).length≤17*p
 | 0=>by simp[NI]
 | p+1=>by
  have h1:=ZA (c:=c) p
  have h2:=U3 (gd c.Aa.xs p)
  rw[Yj,List.length_append,YX];omega
theorem pieces_len{c:Ai}(hf:Fine c):(Df c).length≤400:=by
 have h1:=ZX (c:=c) c.Aa.xs.length
 have h2:=ZJ hf c.Aj.xs.length (Nat.le_refl _)
 have h3:=ZA (c:=c) c.Aa.xs.length
 have hpn:=hf.pn;have hcn:=hf.cn
 unfold Df
 rw[List.length_append,List.length_append];omega
theorem dAt_bd2{c:Ai}{k j:Nat}(hj:j≤64):CX c k≤Iy c k j∧Iy c k j≤CX c k+9100:=by
 have h1:=NH (gd c.Aj.xs k)
 have h2:=TU (gd c.Aj.xs k)
 unfold Iy
 have h4:=Int.mul_nonneg (show(0:Int)≤(j:Int)by omega) h2.1
 have h5:=Int.mul_le_mul (show(j:Int)≤64 by omega) h2.2 h2.1 (by omega)
 omega
theorem tabsN_touch{x:Ar}(hr:∀ i,i<x.Ah.xs.length→Kw (gd x.Ah.xs i)=true):(List.range 16).countP (fun b=>Ip x b)=Jr x:=by
 unfold Jr
 congr 1
 funext b
 exact touch_tab hr b
theorem rmay_yes(w:World)(c:Ai)(hc:Ai.ok Any w c)(h:Ej c=true):Calls Tryd.prog 30 #[.agg (Ai.arr c)] w fun e w'=>e = .returned (.bool true)∧CE (fun _=>False) w w':=by
 have:=Y0 w c hc
 rwa [h]at this
theorem rmay_no(w:World)(c:Ai)(hc:Ai.ok Any w c)(h:Ej c=false):Calls Tryd.prog 30 #[.agg (Ai.arr c)] w fun e w'=>e = .returned (.bool false)∧CE (fun _=>False) w w':=by
 have:=Y0 w c hc
 rwa [h]at this
section
variable (n36:Nat)(c:Ai)(k:Nat)(y30:AZ)(n10 i:Nat)(n21 z n6:Nat)(aR3:Option Addr)(p:Nat)(y55:Ar)(q cR3:Nat)(aR2:Option Addr)(cR2:Nat)(aR7:Option Addr)(u cR7:Nat)(aR5:Option Addr)(cR5:Nat)(aR1:Option Addr)(cR1:Nat)(ax72:Option Addr)(cp73:Nat)(ax16:Option Addr)(cp17:Nat)(ax38:Option Addr)(cp39 t:Nat)(w:World)
abbrev JG:=bk n36 #[i6 ((CX c k)+2),i6 (BL y30),i6 7,Ac k,i6 0] 97
abbrev Y1:=bk n10 #[i6 ((CV c i)+2),i6 17,i6 4,Ac i,i6 0] 97
abbrev Jw:=bk (n21+1) #[i6 (CX c k),i6 2,i6 6,Ac k,i6 0] 97
abbrev EX:=bk (z+1) #[i6 (16*c.Kernel),i6 2,i6 2,i6 0,i6 0] 97
abbrev VX:=bk n6 #[i6 (CV c i),i6 2,i6 3,Ac i,i6 0] 97
abbrev Jz:=bk n21 (AZ.arr y30) 115
abbrev EY:=bk z (Ai.arr c) 26
abbrev Ru:=Cm z 97 5 BI.cells (.slice aR3 ((Gq c i++Iw c k++[(⟨CX c k,2,(⟨6,(k:Int),0⟩:CY)⟩:BI)]++[(⟨CX c k+2,BL y30,(⟨7,(k:Int),0⟩:CY)⟩:BI)]++IL c k (Dj c (k:Int) false p++CQ p y55 (k:Int) false q)).length) cR3) (Gq c i++Iw c k++[(⟨CX c k,2,(⟨6,(k:Int),0⟩:CY)⟩:BI)]++[(⟨CX c k+2,BL y30,(⟨7,(k:Int),0⟩:CY)⟩:BI)]++IL c k (Dj c (k:Int) false p++CQ p y55 (k:Int) false q))
abbrev Lr:=Cm z 97 5 BI.cells (.slice aR2 ((Gq c i++Iw c k++[(⟨CX c k,2,(⟨6,(k:Int),0⟩:CY)⟩:BI)]++[(⟨CX c k+2,BL y30,(⟨7,(k:Int),0⟩:CY)⟩:BI)]++IL c k (Dj c (k:Int) false p)).length) cR2) (Gq c i++Iw c k++[(⟨CX c k,2,(⟨6,(k:Int),0⟩:CY)⟩:BI)]++[(⟨CX c k+2,BL y30,(⟨7,(k:Int),0⟩:CY)⟩:BI)]++IL c k (Dj c (k:Int) false p))
abbrev UT:=Cm z 97 5 BI.cells (.slice aR7 ((Gq c i++Iw c k++NI c p++IQ c p u).length) cR7) (Gq c i++Iw c k++NI c p++IQ c p u)
abbrev Og:=Cm z 97 5 BI.cells (.slice aR5 ((Gq c i++Iw c k++NI c p).length) cR5) (Gq c i++Iw c k++NI c p)
abbrev Jf:=Cm z 97 5 BI.cells (.slice aR1 ((Gq c i++Iw c k).length) cR1) (Gq c i++Iw c k)
abbrev Xe:Dk:=(3,.slice ax72 ((Gq c i++Iw c k++[(⟨CX c k,2,(⟨6,(k:Int),0⟩:CY)⟩:BI)]++[(⟨CX c k+2,BL y30,(⟨7,(k:Int),0⟩:CY)⟩:BI)]++IL c k (Dj c (k:Int) false p++CQ p y55 (k:Int) false q)++[(⟨Iy c k (Dj c (k:Int) false p++CQ p y55 (k:Int) false q).length,portOf y30,(⟨8,(p:Int),(q:Int)⟩:CY)⟩:BI)]).length) cp73)
abbrev X6:Dk:=(125,.slice aR3 ((Gq c i++Iw c k++[(⟨CX c k,2,(⟨6,(k:Int),0⟩:CY)⟩:BI)]++[(⟨CX c k+2,BL y30,(⟨7,(k:Int),0⟩:CY)⟩:BI)]++IL c k (Dj c (k:Int) false p++CQ p y55 (k:Int) false q)).length) cR3)
abbrev KY:Dk:=(3,.slice aR3 ((Gq c i++Iw c k++[(⟨CX c k,2,(⟨6,(k:Int),0⟩:CY)⟩:BI)]++[(⟨CX c k+2,BL y30,(⟨7,(k:Int),0⟩:CY)⟩:BI)]++IL c k (Dj c (k:Int) false p++CQ p y55 (k:Int) false q)).length) cR3)
abbrev XC:Dk:=(3,.slice ax16 ((((Gq c i++[(⟨CV c i,2,(⟨3,(i:Int),0⟩:CY)⟩:BI)])++[(⟨(CV c i)+2,17,(⟨4,(i:Int),0⟩:CY)⟩:BI)])++[(⟨((CV c i)+2)+17,5,(⟨5,(i:Int),0⟩:CY)⟩:BI)]).length) cp17)
abbrev Ji:Dk:=(3,.slice aR2 ((Gq c i++Iw c k++[(⟨CX c k,2,(⟨6,(k:Int),0⟩:CY)⟩:BI)]++[(⟨CX c k+2,BL y30,(⟨7,(k:Int),0⟩:CY)⟩:BI)]++IL c k (Dj c (k:Int) false p)).length) cR2)
abbrev ZW:Dk:=(3,.slice ax38 (((Gq c i++Iw c k++[(⟨CX c k,2,(⟨6,(k:Int),0⟩:CY)⟩:BI)])++[(⟨(CX c k)+2,BL y30,(⟨7,(k:Int),0⟩:CY)⟩:BI)]).length) cp39)
abbrev UL:=(12,i6 (((1+(List.range t).countP (fun b=>Ip (gd c.Aa.xs p) b))+1:Nat):Int))
abbrev PN:=(166,i6 ((1+(List.range t).countP (fun b=>Ip (gd c.Aa.xs p) b):Nat):Int))
abbrev Md:=(12,i6 ((1+(List.range t).countP (fun b=>Ip (gd c.Aa.xs p) b):Nat):Int))
abbrev Kr:=(4,i6 (Iy c k (Dj c (k:Int) false p++CQ p y55 (k:Int) false q).length))
abbrev Jj:=(4,i6 (Iy c k (Dj c (k:Int) false p).length))
abbrev Je:Dk:=(3,.slice aR5 ((Gq c i++Iw c k++NI c p).length) cR5)
abbrev GV:=(149,Ac c.Aa.xs.length)
abbrev H6:=(27,Ac c.Aa.xs.length)
abbrev FZ:=(93,Ac c.Aa.xs.length)
abbrev EC:=(60,Ac c.Aj.xs.length)
abbrev Ja:=(103,Ac y55.Ap.xs.length)
abbrev Ii:Dk:=(3,.slice aR1 ((Gq c i++Iw c k).length) cR1)
abbrev Qv:=(4,i6 (16*(Ec c p+(u:Int))))
abbrev OI:=(104,i6 ((q+1:Nat):Int))
abbrev Fj:=(7,pt n21)
abbrev OD:=[(Ak w),(EY c z),(EX c z),(Ru c k y30 i z aR3 p y55 q cR3),(Jz y30 n21),(Jw c k n21),(JG n36 c k y30)]
end
theorem rpieces_calls(w:World)(c:Ai)(hc:Ai.ok Any w c)(hok:Ej c=true):Calls Tryd.prog 32 #[.agg (Ai.arr c)] w fun e w'=>∃ a cp,e = .returned (.slice a (Df c).length cp)∧Wy BI.cells 5 (New w.heap.size) w' ⟨a,cp,Df c⟩∧CE (fun _=>False) w w':=by
 obtain⟨z,hz⟩:∃ z,z=w.heap.size:=⟨_,rfl⟩
 refine Cb (args:=[.agg (Ai.arr c)]) 181 ⟨w,z,[(Ak w)]⟩ Tryd.func32 rfl (by kernel_rfl) (by kernel_rfl) (Em hz) ?_
 have hfine:=TM hok;have hkn:=hfine.kn;have hpn:=hfine.pn;have hcn:=hfine.cn;have h8:∀ i,i<c.Aa.xs.length→(gd c.Aa.xs i).Ap.xs.length≤8:=fun i hi=>Ol (hfine.parts i hi)
 refine DI [0] [(0,.agg (Ai.arr c))] ?_
 refine q_c 14 5 [] [[o0,o0],[o0],[o0,(a1 1),(ov (i6 (16*c.Kernel))),o0],[o0,o0,o0,o0,o0]] [Qb z,Wr ((16:Int)*c.Kernel) (16*c.Kernel)] [(1,pt z),(4,i6 (16*c.Kernel)),(17,.slice none 0 0),(21,.slice (some ⟨z+1,0,none⟩) 1 1)] ⟨w,z+2,[(Ak w),(EY c z),(EX c z)]⟩ rfl ⟨rfl,BQ,Ae⟩ ?_
 refine l_rowL z 97 5 BI.cells ?_
 refine NY z 3 2 ([]) [(⟨16*c.Kernel,2,(⟨2,0,0⟩:CY)⟩:BI)] BI.cells 97 5 40 (.slice none 0 0) (z+1) 1 1 #[i6 (16*c.Kernel),i6 2,i6 2,i6 0,i6 0] 97 (0,0) true (some 22) (by simp only[List.length_cons,List.length_nil,List.length_append];omega) (show z≤z+2 by omega) (fun ax1 cp2 n3 (hn4:z+2≤n3) => ?_)
 refine Bq 12 0 [] [[o0],[o0,(ov (i6 ((16*c.Kernel)+2))),o0],[o0,(a1 1),o0,o0]] [Wr ((16*c.Kernel:Int)+2) ((16*c.Kernel)+2),Qb z] [(1,pt z),(3,.slice ax1 (([]++[(⟨16*c.Kernel,2,(⟨2,0,0⟩:CY)⟩:BI)]).length) cp2),(4,i6 ((16*c.Kernel)+2)),(H6 c),(28,i6 0)] rfl ⟨BQ,rfl,Ae⟩ ?_
 refine Du (fun m a w'=>∃ (n6:Nat) (i:Nat) (aR0:Option Addr) (cR0:Nat),m=c.Aa.xs.length - i∧n3≤n6∧(i≤c.Aa.xs.length)∧St 181 [(1,pt z),(3,.slice aR0 ((Gq c i).length) cR0),(4,i6 (CV c i)),(H6 c),(28,Ac i)] [] ⟨w,n6,[(Ak w),(EY c z),(EX c z),(Cm z 97 5 BI.cells (.slice aR0 ((Gq c i).length) cR0) (Gq c i))]⟩ a w') (c.Aa.xs.length - 0) ?_ ?_
 ·intro a w' hs;exact⟨n3,0,ax1,cp2,rfl,Nat.le_refl _,Nat.zero_le _,by(try dsimp only[EX,EY,H6]at hs ⊢);rw[show CV c 0=(16*c.Kernel)+2 from by unfold CV;omega];exact hs⟩
 rintro m a w' ⟨n6,i,aR0,cR0,rfl,hn5,hki,hs⟩
 refine(?_:G Tryd.prog 181 [(1,pt z),(3,.slice aR0 ((Gq c i).length) cR0),(4,i6 (CV c i)),(H6 c),(28,Ac i)] [] ⟨w,n6,[(Ak w),(EY c z),(EX c z),(Cm z 97 5 BI.cells (.slice aR0 ((Gq c i).length) cR0) (Gq c i))]⟩ _ _ _) a w' hs
 clear hs a w'
 have hpA:CV c i=c.Kernel*16+2+24*(i:Int):=rfl
 have hlp:=ZX (c:=c) i
 refine CB ?_
 by_cases h7:(i:Int)<(c.Aa.xs.length:Int)
 ·refine q_c 15 6 [1] [[oT],[o0,o0],[o0,o0,o0,o0,o0,o0]] [BT ((i:Int)<(c.Aa.xs.length:Int))] [(1,pt z),(4,i6 (CV c i)),(H6 c),(28,Ac i),(5,Ac i),(31,.slice aR0 ((Gq c i).length) cR0),(36,.slice (some ⟨n6,0,none⟩) 1 1)] ⟨w,n6+1,[(Ak w),(EY c z),(EX c z),(Cm z 97 5 BI.cells (.slice aR0 ((Gq c i).length) cR0) (Gq c i)),(VX c i n6)]⟩ rfl ⟨bt,Ae⟩ ?_
  refine NY z 3 4 (Gq c i) [(⟨CV c i,2,(⟨3,(i:Int),0⟩:CY)⟩:BI)] BI.cells 97 5 40 (.slice aR0 ((Gq c i).length) cR0) n6 1 1 #[i6 (CV c i),i6 2,i6 3,Ac i,i6 0] 97 (0,0) true (some 37) (by simp only[List.length_cons,List.length_nil,List.length_append];omega) (show z≤n6+1 by omega) (fun ax8 cp9 n10 (hn11:n6+1≤n10) => ?_)
  refine F8 4 7 [] [[o0],[o0,o0,(ov (i6 ((CV c i)+2))),o0,o0,o0,o0]] [Wr ((CV c i:Int)+2) ((CV c i)+2)] [(1,pt z),(4,i6 (CV c i)),(H6 c),(28,Ac i),(5,Ac i),(38,.slice ax8 ((Gq c i++[(⟨CV c i,2,(⟨3,(i:Int),0⟩:CY)⟩:BI)]).length) cp9),(44,.slice (some ⟨n10,0,none⟩) 1 1)] ⟨w,n10+1,[(Ak w),(EY c z),(EX c z),(Cm z 97 5 BI.cells (.slice ax8 ((Gq c i++[(⟨CV c i,2,(⟨3,(i:Int),0⟩:CY)⟩:BI)]).length) cp9) (Gq c i++[(⟨CV c i,2,(⟨3,(i:Int),0⟩:CY)⟩:BI)])),(VX c i n6),(Y1 c n10 i)]⟩ rfl ⟨BQ,Ae⟩ ?_
  refine NY z 3 5 (Gq c i++[(⟨CV c i,2,(⟨3,(i:Int),0⟩:CY)⟩:BI)]) [(⟨(CV c i)+2,17,(⟨4,(i:Int),0⟩:CY)⟩:BI)] BI.cells 97 5 40 (.slice ax8 ((Gq c i++[(⟨CV c i,2,(⟨3,(i:Int),0⟩:CY)⟩:BI)]).length) cp9) n10 1 1 #[i6 ((CV c i)+2),i6 17,i6 4,Ac i,i6 0] 97 (0,0) true (some 45) (by simp only[List.length_cons,List.length_nil,List.length_append];omega) (show z≤n10+1 by omega) (fun ax12 cp13 n14 (hn15:n10+1≤n14) => ?_)
  refine F8 4 8 [] [[o0],[o0,o0,(ov (i6 ((CV c i)+2))),(ov (i6 (((CV c i)+2)+17))),o0,o0,o0,o0]] [Wr ((CV c i:Int)+2) ((CV c i)+2),Wr (((CV c i)+2:Int)+17) (((CV c i)+2)+17)] [(1,pt z),(4,i6 (CV c i)),(H6 c),(28,Ac i),(46,.slice ax12 (((Gq c i++[(⟨CV c i,2,(⟨3,(i:Int),0⟩:CY)⟩:BI)])++[(⟨(CV c i)+2,17,(⟨4,(i:Int),0⟩:CY)⟩:BI)]).length) cp13),(53,.slice (some ⟨n14,0,none⟩) 1 1)] ⟨w,n14+1,[(Ak w),(EY c z),(EX c z),(Cm z 97 5 BI.cells (.slice ax12 (((Gq c i++[(⟨CV c i,2,(⟨3,(i:Int),0⟩:CY)⟩:BI)])++[(⟨(CV c i)+2,17,(⟨4,(i:Int),0⟩:CY)⟩:BI)]).length) cp13) ((Gq c i++[(⟨CV c i,2,(⟨3,(i:Int),0⟩:CY)⟩:BI)])++[(⟨(CV c i)+2,17,(⟨4,(i:Int),0⟩:CY)⟩:BI)])),(VX c i n6),(Y1 c n10 i),(bk n14 #[i6 (((CV c i)+2)+17),i6 5,i6 5,Ac i,i6 0] 97)]⟩ rfl ⟨BQ,BQ,Ae⟩ ?_
  refine NY z 3 6 ((Gq c i++[(⟨CV c i,2,(⟨3,(i:Int),0⟩:CY)⟩:BI)])++[(⟨(CV c i)+2,17,(⟨4,(i:Int),0⟩:CY)⟩:BI)]) [(⟨((CV c i)+2)+17,5,(⟨5,(i:Int),0⟩:CY)⟩:BI)] BI.cells 97 5 40 (.slice ax12 (((Gq c i++[(⟨CV c i,2,(⟨3,(i:Int),0⟩:CY)⟩:BI)])++[(⟨(CV c i)+2,17,(⟨4,(i:Int),0⟩:CY)⟩:BI)]).length) cp13) n14 1 1 #[i6 (((CV c i)+2)+17),i6 5,i6 5,Ac i,i6 0] 97 (0,0) true (some 54) (by simp only[List.length_cons,List.length_nil,List.length_append];omega) (show z≤n14+1 by omega) (fun ax16 cp17 n18 (hn19:n14+1≤n18) => ?_)
  refine Bq 8 0 [] [[o0],[o0,(ov (i6 ((CV c i)+24))),o0],[(ov (i6 ((i+1:Nat):Int))),o0]] [Wr ((CV c i:Int)+24) ((CV c i)+24),Wr ((i:Int)+1) (((i+1:Nat):Int))] [(1,pt z),(4,i6 ((CV c i)+24)),(H6 c),(28,i6 ((i+1:Nat):Int)),(XC c i ax16 cp17)] rfl ⟨BQ,BQ,Ae⟩ ?_
  refine BX [0,1,2,3] [(Ak w),(EY c z),(EX c z),(Cm z 97 5 BI.cells (.slice ax16 ((((Gq c i++[(⟨CV c i,2,(⟨3,(i:Int),0⟩:CY)⟩:BI)])++[(⟨(CV c i)+2,17,(⟨4,(i:Int),0⟩:CY)⟩:BI)])++[(⟨((CV c i)+2)+17,5,(⟨5,(i:Int),0⟩:CY)⟩:BI)]).length) cp17) (((Gq c i++[(⟨CV c i,2,(⟨3,(i:Int),0⟩:CY)⟩:BI)])++[(⟨(CV c i)+2,17,(⟨4,(i:Int),0⟩:CY)⟩:BI)])++[(⟨((CV c i)+2)+17,5,(⟨5,(i:Int),0⟩:CY)⟩:BI)]))] rfl rfl ?_
  refine BK [1,3,4,27,28] [(1,pt z),(XC c i ax16 cp17),(4,i6 ((CV c i)+24)),(H6 c),(28,i6 ((i+1:Nat):Int))] ?_
  refine BO (fun a w' hs=>⟨c.Aa.xs.length - (i+1),by omega,n18,(i+1),ax16,cp17,rfl,by omega,by omega,by(try dsimp only[Y1,EX,VX,EY,XC,H6]at hs ⊢);rw[show CV c (i+1)=(CV c i)+24 from by unfold CV;omega,Yq];exact hs⟩)
 refine Au 16 0 [0] [[oF],[o0,(a1 1),o0,o0]] [BF ((i:Int)<(c.Aa.xs.length:Int)),Qb z] [(1,pt z),(3,.slice aR0 ((Gq c i).length) cR0),(4,i6 (CV c i)),(EC c),(61,i6 0)] rfl ⟨bf,rfl,Ae⟩ ?_
 refine Du (fun m a w'=>∃ (n21:Nat) (k:Nat) (aR1:Option Addr) (cR1:Nat),m=c.Aj.xs.length - k∧n6≤n21∧(k≤c.Aj.xs.length)∧St 181 [(1,pt z),(Ii c k i aR1 cR1),(4,i6 (CX c k)),(EC c),(61,Ac k)] [] ⟨w,n21,[(Ak w),(EY c z),(EX c z),(Jf c k i z aR1 cR1)]⟩ a w') (c.Aj.xs.length - 0) ?_ ?_
 ·intro a w' hs;exact⟨n6,0,aR0,cR0,rfl,Nat.le_refl _,Nat.zero_le _,by(try dsimp only[Y1,EX,VX,EY,Jf,XC,H6,EC,Ii]at hs ⊢);rw[show Iw c 0=[]from rfl,List.append_nil,show CX c 0=CV c i from by rw[show i=c.Aa.xs.length by omega];rfl];exact hs⟩
 rintro m a w' ⟨n21,k,aR1,cR1,rfl,hn20,hkk,hs⟩
 refine(?_:G Tryd.prog 181 [(1,pt z),(Ii c k i aR1 cR1),(4,i6 (CX c k)),(EC c),(61,Ac k)] [] ⟨w,n21,[(Ak w),(EY c z),(EX c z),(Jf c k i z aR1 cR1)]⟩ _ _ _) a w' hs
 clear hs a w'
 have hcb:=Sz hfine k (by omega)
 have hp0:CV c c.Aa.xs.length=c.Kernel*16+2+24*(c.Aa.xs.length:Int):=rfl
 have hlc:=ZJ hfine k (by omega)
 refine CB ?_
 by_cases h22:(k:Int)<(c.Aj.xs.length:Int)
 ·refine Au 14 0 [1] [[oT],[o0,o0]] [BT ((k:Int)<(c.Aj.xs.length:Int))] [(1,pt z),(Ii c k i aR1 cR1),(4,i6 (CX c k)),(EC c),(61,Ac k),(6,Ac k)] rfl ⟨bt,Ae⟩ ?_
  obtain⟨b23,o24,ha25,hF27,hc26⟩:=(hc.Aj).1.all (show 0<c.Aj.xs.length by omega)
  replace ha25:c.Aj.a=some ⟨b23,o24,none⟩:=ha25
  have hc28:=hc26 k (show k<c.Aj.xs.length by omega)
  have he29:=(hc.Aj).2 k (show k<c.Aj.xs.length by omega)
  obtain⟨y30,hy30⟩:∃ y_,y_=gd c.Aj.xs k:=⟨_,rfl⟩
  rw[←hy30]at he29 hc28
  have hsb:=NH y30;have hpb:=TU y30;have hlb:=ZT hfine (show k<c.Aj.xs.length by omega)
  refine q_c 5 6 [] [[o0,(E8 1 b23 o24 c.Aj),o0,(oi k),(ol 0 (AZ.arr y30)),o0,(an 3 4)],[o0,o0,o0,o0,o0,o0]] [Qb z,DZ b23 o24 c.Aj,CW k,k<c.Aj.xs.length,Ce,GU w b23 (o24+k*3) (AZ.arr y30),Qb n21,Qb n21,Qb n21] [(1,pt z),(4,i6 (CX c k)),(EC c),(61,Ac k),(6,Ac k),(Fj n21),(69,.slice aR1 ((Gq c i++Iw c k).length) cR1),(74,.slice (some ⟨n21+1,0,none⟩) 1 1)] ⟨w,n21+2,[(Ak w),(EY c z),(EX c z),(Jf c k i z aR1 cR1),(Jz y30 n21),(Jw c k n21)]⟩ rfl ⟨rfl,Ea ha25,rfl,(by omega),rfl,Ei hc28,rfl,rfl,rfl,Ae⟩ ?_
  refine NY z 3 5 (Gq c i++Iw c k) [(⟨CX c k,2,(⟨6,(k:Int),0⟩:CY)⟩:BI)] BI.cells 97 5 40 (.slice aR1 ((Gq c i++Iw c k).length) cR1) (n21+1) 1 1 #[i6 (CX c k),i6 2,i6 6,Ac k,i6 0] 97 (0,0) true (some 75) (by simp only[List.length_cons,List.length_nil,List.length_append];omega) (show z≤n21+2 by omega) (fun ax31 cp32 n33 (hn34:n21+2≤n33) => ?_)
  refine Bq 4 4 [] [[o0],[o0,o0,(ov (i6 ((CX c k)+2))),(an 3 4)]] [Wr ((CX c k:Int)+2) ((CX c k)+2),Qb n21,Qb n21,Qb n21] [(1,pt z),(4,i6 (CX c k)),(EC c),(61,Ac k),(6,Ac k),(Fj n21),(76,.slice ax31 ((Gq c i++Iw c k++[(⟨CX c k,2,(⟨6,(k:Int),0⟩:CY)⟩:BI)]).length) cp32),(78,i6 ((CX c k)+2)),(79,.agg (AZ.arr y30))] rfl ⟨BQ,rfl,rfl,rfl,Ae⟩ ?_
  refine AY 56 #[.agg (AZ.arr y30)] (some 80) (i6 (BL y30)) (fun w35 hw35=>VY w35 y30 (he29.ext (hw35.ext rfl) (fun _ h=>h))) (fun n36 (hn37:n33≤n36) => ?_)
  refine F8 0 4 [] [[o0,o0,o0,o0]] [] [(1,pt z),(4,i6 (CX c k)),(EC c),(61,Ac k),(6,Ac k),(Fj n21),(76,.slice ax31 ((Gq c i++Iw c k++[(⟨CX c k,2,(⟨6,(k:Int),0⟩:CY)⟩:BI)]).length) cp32),(84,.slice (some ⟨n36,0,none⟩) 1 1)] ⟨w,n36+1,[(Ak w),(EY c z),(EX c z),(Cm z 97 5 BI.cells (.slice ax31 ((Gq c i++Iw c k++[(⟨CX c k,2,(⟨6,(k:Int),0⟩:CY)⟩:BI)]).length) cp32) (Gq c i++Iw c k++[(⟨CX c k,2,(⟨6,(k:Int),0⟩:CY)⟩:BI)])),(Jz y30 n21),(Jw c k n21),(JG n36 c k y30)]⟩ rfl Ae ?_
  refine NY z 3 6 (Gq c i++Iw c k++[(⟨CX c k,2,(⟨6,(k:Int),0⟩:CY)⟩:BI)]) [(⟨(CX c k)+2,BL y30,(⟨7,(k:Int),0⟩:CY)⟩:BI)] BI.cells 97 5 40 (.slice ax31 ((Gq c i++Iw c k++[(⟨CX c k,2,(⟨6,(k:Int),0⟩:CY)⟩:BI)]).length) cp32) n36 1 1 #[i6 ((CX c k)+2),i6 (BL y30),i6 7,Ac k,i6 0] 97 (0,0) true (some 85) (by simp only[List.length_cons,List.length_nil,List.length_append];omega) (show z≤n36+1 by omega) (fun ax38 cp39 n40 (hn41:n36+1≤n40) => ?_)
  refine Bq 4 2 [] [[o0],[o0,(an 3 4)]] [Qb n21,Qb n21,Qb n21] [(1,pt z),(EC c),(61,Ac k),(6,Ac k),(Fj n21),(ZW c k y30 i ax38 cp39),(86,i6 (CX c k)),(87,.agg (AZ.arr y30))] rfl ⟨rfl,rfl,rfl,Ae⟩ ?_
  refine AY 56 #[.agg (AZ.arr y30)] (some 88) (i6 (BL y30)) (fun w42 hw42=>VY w42 y30 (he29.ext (hw42.ext rfl) (fun _ h=>h))) (fun n43 (hn44:n40≤n43) => ?_)
  refine Bq 7 0 [] [[(ov (i6 (2+(BL y30)))),(ov (i6 ((CX c k)+(2+(BL y30))))),o0],[o0,(a1 1),o0,o0]] [Wr ((2:Int)+(BL y30)) (2+(BL y30)),Wr ((CX c k:Int)+(2+(BL y30))) ((CX c k)+(2+(BL y30))),Qb z] [(1,pt z),(ZW c k y30 i ax38 cp39),(4,i6 ((CX c k)+(2+(BL y30)))),(6,Ac k),(Fj n21),(EC c),(61,Ac k),(FZ c),(94,i6 0)] rfl ⟨BQ,BQ,rfl,Ae⟩ ?_
  refine Du (fun m a w'=>∃ (n46:Nat) (p:Nat) (aR2:Option Addr) (cR2:Nat),m=c.Aa.xs.length - p∧n43≤n46∧(p≤c.Aa.xs.length)∧St 181 [(1,pt z),(Ji c k y30 i p aR2 cR2),(Jj c k p),(6,Ac k),(Fj n21),(EC c),(61,Ac k),(FZ c),(94,Ac p)] [] ⟨w,n46,[(Ak w),(EY c z),(EX c z),(Lr c k y30 i z p aR2 cR2),(Jz y30 n21),(Jw c k n21),(JG n36 c k y30)]⟩ a w') (c.Aa.xs.length - 0) ?_ ?_
  ·intro a w' hs;exact⟨n43,0,ax38,cp39,rfl,Nat.le_refl _,Nat.zero_le _,by(try dsimp only[JG,Jw,EX,Jz,EY,Lr,Jf,Ji,ZW,Jj,H6,FZ,EC,Ii,Fj]at hs ⊢);rw[show Dj c (k:Int) false 0=[]from rfl,show Iy c k (List.length [])=(CX c k)+(2+(BL y30))from by unfold Iy;rw[←hy30,List.length_nil];omega,show IL c k []=[]from rfl,List.append_nil];exact hs⟩
  rintro m a w' ⟨n46,p,aR2,cR2,rfl,hn45,hkp,hs⟩
  refine(?_:G Tryd.prog 181 [(1,pt z),(Ji c k y30 i p aR2 cR2),(Jj c k p),(6,Ac k),(Fj n21),(EC c),(61,Ac k),(FZ c),(94,Ac p)] [] ⟨w,n46,[(Ak w),(EY c z),(EX c z),(Lr c k y30 i z p aR2 cR2),(Jz y30 n21),(Jw c k n21),(JG n36 c k y30)]⟩ _ _ _) a w' hs
  clear hs a w'
  have hle:=SS (k:=(k:Int)) (b:=false) h8 p (by omega)
  have hdb:=dAt_bd2 (c:=c) (k:=k) (show(Dj c (k:Int) false p).length≤64 by omega)
  have hld:=UH (c:=c) (k:=k) (l:=Dj c (k:Int) false p)
  refine CB ?_
  by_cases h47:(p:Int)<(c.Aa.xs.length:Int)
  ·refine Au 14 0 [1] [[oT],[o0,o0]] [BT ((p:Int)<(c.Aa.xs.length:Int))] [(1,pt z),(Ji c k y30 i p aR2 cR2),(Jj c k p),(6,Ac k),(Fj n21),(EC c),(61,Ac k),(FZ c),(94,Ac p),(8,Ac p)] rfl ⟨bt,Ae⟩ ?_
   obtain⟨b48,o49,ha50,hF52,hc51⟩:=(hc.Aa).1.all (show 0<c.Aa.xs.length by omega)
   replace ha50:c.Aa.a=some ⟨b48,o49,none⟩:=ha50
   have hc53:=hc51 p (show p<c.Aa.xs.length by omega)
   have he54:=(hc.Aa).2 p (show p<c.Aa.xs.length by omega)
   obtain⟨y55,hy55⟩:∃ y_,y_=gd c.Aa.xs p:=⟨_,rfl⟩
   rw[←hy55]at he54 hc53
   have h8p:=h8 p (by omega);rw[←hy55]at h8p
   refine Au 4 0 [] [[o0,(E8 1 b48 o49 c.Aa),o0,(oi p),o0,(oa [.via 0 (.slice y55.Ap.a y55.Ap.xs.length y55.Ap.cap)]),o0,o0]] [Qb z,DZ b48 o49 c.Aa,CW p,p<c.Aa.xs.length,Ce,Old w b48 (o49+p*8+7) (.slice y55.Ap.a y55.Ap.xs.length y55.Ap.cap)] [(1,pt z),(Ji c k y30 i p aR2 cR2),(Jj c k p),(6,Ac k),(Fj n21),(8,Ac p),(EC c),(61,Ac k),(FZ c),(94,Ac p),(Ja y55),(104,i6 0)] rfl ⟨rfl,Ea ha50,rfl,(by omega),rfl,Aw (hc53 7 _ rfl),Ae⟩ ?_
   refine Du (fun m a w'=>∃ (n57:Nat) (q:Nat) (aR3:Option Addr) (cR3:Nat),m=y55.Ap.xs.length - q∧n46≤n57∧(q≤y55.Ap.xs.length)∧St 181 [(1,pt z),(KY c k y30 i aR3 p y55 q cR3),(Kr c k p y55 q),(6,Ac k),(Fj n21),(8,Ac p),(EC c),(61,Ac k),(FZ c),(94,Ac p),(Ja y55),(104,Ac q)] [] ⟨w,n57,(OD n36 c k y30 i n21 z aR3 p y55 q cR3 w)⟩ a w') (y55.Ap.xs.length - 0) ?_ ?_
   ·intro a w' hs;exact⟨n46,0,aR2,cR2,rfl,Nat.le_refl _,Nat.zero_le _,by(try dsimp only[JG,Jw,EX,Jz,EY,Ru,Lr,Jf,KY,Ji,Kr,Jj,H6,FZ,EC,Ja,Ii,Fj,OD]at hs ⊢);rw[show CQ p y55 (k:Int) false 0=[]from rfl,List.append_nil];exact hs⟩
   rintro m a w' ⟨n57,q,aR3,cR3,rfl,hn56,hkq,hs⟩
   refine(?_:G Tryd.prog 181 [(1,pt z),(KY c k y30 i aR3 p y55 q cR3),(Kr c k p y55 q),(6,Ac k),(Fj n21),(8,Ac p),(EC c),(61,Ac k),(FZ c),(94,Ac p),(Ja y55),(104,Ac q)] [] ⟨w,n57,(OD n36 c k y30 i n21 z aR3 p y55 q cR3 w)⟩ _ _ _) a w' hs
   clear hs a w'
   have hlq:(CQ p y55 (k:Int) false q).length≤q:=QT
   have hl2:(Dj c (k:Int) false p++CQ p y55 (k:Int) false q).length=(Dj c (k:Int) false p).length+(CQ p y55 (k:Int) false q).length:=List.length_append
   have hdb2:=dAt_bd2 (c:=c) (k:=k) (show(Dj c (k:Int) false p++CQ p y55 (k:Int) false q).length≤64 by omega)
   have hld2:=UH (c:=c) (k:=k) (l:=(Dj c (k:Int) false p++CQ p y55 (k:Int) false q))
   refine CB ?_
   by_cases h58:(q:Int)<(y55.Ap.xs.length:Int)
   ·refine Au 14 0 [1] [[oT],[o0,o0]] [BT ((q:Int)<(y55.Ap.xs.length:Int))] [(1,pt z),(KY c k y30 i aR3 p y55 q cR3),(Kr c k p y55 q),(6,Ac k),(Fj n21),(8,Ac p),(EC c),(61,Ac k),(FZ c),(94,Ac p),(Ja y55),(104,Ac q),(9,Ac q)] rfl ⟨bt,Ae⟩ ?_
    obtain⟨b59,o60,ha61,hF63,hc62⟩:=(he54.Ap).1.all (show 0<y55.Ap.xs.length by omega)
    replace ha61:y55.Ap.a=some ⟨b59,o60,none⟩:=ha61
    have hc64:=hc62 q (show q<y55.Ap.xs.length by omega)
    have he65:=(he54.Ap).2 q (show q<y55.Ap.xs.length by omega)
    obtain⟨y66,hy66⟩:∃ y_,y_=gd y55.Ap.xs q:=⟨_,rfl⟩
    rw[←hy66]at he65 hc64
    refine q_c 4 0 [] [[o0,(E8 1 b48 o49 c.Aa),o0,(oi p),o0,⟨.auto [.via 0 (.slice y55.Ap.a y55.Ap.xs.length y55.Ap.cap)],some (.slice (some ⟨b59,o60,none⟩) y55.Ap.xs.length y55.Ap.cap)⟩,o0,(oi q),(ol 0 (Ed.arr y66)),o0,(an 2 7)]] [Qb z,DZ b48 o49 c.Aa,CW p,p<c.Aa.xs.length,Ce,Old w b48 (o49+p*8+7) (.slice y55.Ap.a y55.Ap.xs.length y55.Ap.cap),DZ b59 o60 y55.Ap,CW q,q<y55.Ap.xs.length,Ce,GU w b59 (o60+q*2) (Ed.arr y66),Qb n57,Qb n57] [(1,pt z),(KY c k y30 i aR3 p y55 q cR3),(Kr c k p y55 q),(6,Ac k),(Fj n21),(8,Ac p),(EC c),(61,Ac k),(FZ c),(94,Ac p),(Ja y55),(104,Ac q),(9,Ac q),(10,pt n57)] ⟨w,n57+1,[(Ak w),(EY c z),(EX c z),(Ru c k y30 i z aR3 p y55 q cR3),(Jz y30 n21),(Jw c k n21),(JG n36 c k y30),(bk n57 (Ed.arr y66) 127)]⟩ rfl ⟨rfl,Ea ha50,rfl,(by omega),rfl,Aw (hc53 7 _ rfl),Ea ha61,rfl,(by omega),rfl,Ei hc64,rfl,rfl,Ae⟩ ?_
    by_cases h67:(y66.Channel:Int)=(k:Int)
    ·by_cases h68:y66.Source=true
     ·refine Au 9 0 [0] [[o0,(a1 7),o0,oT,o0,o0,(a1 7),(ov (.bool false)),o0],[(ov (i6 ((q+1:Nat):Int))),o0]] [Qb n57,ET y66.Channel (k:Int),Qb n57,Value.bool (!y66.Source)=Value.bool false,Wr ((q:Int)+1) (((q+1:Nat):Int))] [(1,pt z),(KY c k y30 i aR3 p y55 q cR3),(Kr c k p y55 q),(6,Ac k),(Fj n21),(8,Ac p),(EC c),(61,Ac k),(FZ c),(94,Ac p),(Ja y55),(OI q)] rfl ⟨rfl,et,rfl,by simp[h68],BQ,Ae⟩ ?_
      refine BX [0,1,2,3,4,5,6] (OD n36 c k y30 i n21 z aR3 p y55 q cR3 w) rfl rfl ?_
      have hT:=Le (p:=p) (x:=y55) (k:=(k:Int)) (b:=false) (j:=q) (by rw[←hy66];exact UO (by revert h68;cases y66.Source <;> simp))
      refine BK [1,3,4,6,7,8,60,61,93,94,103,104] [(1,pt z),(KY c k y30 i aR3 p y55 q cR3),(Kr c k p y55 q),(6,Ac k),(Fj n21),(8,Ac p),(EC c),(61,Ac k),(FZ c),(94,Ac p),(Ja y55),(OI q)] ?_
      refine BO (fun a w' hs=>⟨y55.Ap.xs.length - (q+1),by omega,(n57+1),(q+1),aR3,cR3,rfl,by omega,by omega,by(try dsimp only[JG,Jw,EX,Jz,EY,Ru,Lr,Jf,KY,Ji,Kr,Jj,H6,FZ,EC,Ja,Ii,OI,Fj,OD]at hs ⊢);rw[hT];exact hs⟩)
     refine Au 6 3 [1] [[o0,(a1 7),o0,oT,o0,o0,(a1 7),(ov (.bool true)),o0],[o0,o0,(an 3 4)]] [Qb n57,ET y66.Channel (k:Int),Qb n57,Value.bool (!y66.Source)=Value.bool true,Qb n21,Qb n21,Qb n21] [(1,pt z),(Kr c k p y55 q),(6,Ac k),(Fj n21),(8,Ac p),(EC c),(61,Ac k),(FZ c),(94,Ac p),(Ja y55),(104,Ac q),(9,Ac q),(X6 c k y30 i aR3 p y55 q cR3),(126,i6 (Iy c k (Dj c (k:Int) false p++CQ p y55 (k:Int) false q).length)),(127,.agg (AZ.arr y30))] rfl ⟨rfl,et,rfl,by simp[h68],rfl,rfl,rfl,Ae⟩ ?_
     refine AY 54 #[.agg (AZ.arr y30)] (some 128) (i6 (portOf y30)) (fun w69 hw69=>UF w69 y30 (he29.ext (hw69.ext rfl) (fun _ h=>h))) (fun n70 (hn71:n57+1≤n70) => ?_)
     refine F8 0 5 [] [[o0,o0,o0,o0,o0]] [] [(1,pt z),(Kr c k p y55 q),(6,Ac k),(Fj n21),(8,Ac p),(EC c),(61,Ac k),(FZ c),(94,Ac p),(Ja y55),(104,Ac q),(X6 c k y30 i aR3 p y55 q cR3),(133,.slice (some ⟨n70,0,none⟩) 1 1)] ⟨w,n70+1,[(Ak w),(EY c z),(EX c z),(Ru c k y30 i z aR3 p y55 q cR3),(Jz y30 n21),(Jw c k n21),(JG n36 c k y30),(bk n57 (Ed.arr y66) 127),(bk n70 #[i6 (Iy c k (Dj c (k:Int) false p++CQ p y55 (k:Int) false q).length),i6 (portOf y30),i6 8,Ac p,Ac q] 97)]⟩ rfl Ae ?_
     refine NY z 3 8 (Gq c i++Iw c k++[(⟨CX c k,2,(⟨6,(k:Int),0⟩:CY)⟩:BI)]++[(⟨CX c k+2,BL y30,(⟨7,(k:Int),0⟩:CY)⟩:BI)]++IL c k (Dj c (k:Int) false p++CQ p y55 (k:Int) false q)) [(⟨Iy c k (Dj c (k:Int) false p++CQ p y55 (k:Int) false q).length,portOf y30,(⟨8,(p:Int),(q:Int)⟩:CY)⟩:BI)] BI.cells 97 5 40 (.slice aR3 ((Gq c i++Iw c k++[(⟨CX c k,2,(⟨6,(k:Int),0⟩:CY)⟩:BI)]++[(⟨CX c k+2,BL y30,(⟨7,(k:Int),0⟩:CY)⟩:BI)]++IL c k (Dj c (k:Int) false p++CQ p y55 (k:Int) false q)).length) cR3) n70 1 1 #[i6 (Iy c k (Dj c (k:Int) false p++CQ p y55 (k:Int) false q).length),i6 (portOf y30),i6 8,Ac p,Ac q] 97 (0,0) true (some 134) (by simp only[List.length_cons,List.length_nil,List.length_append];omega) (show z≤n70+1 by omega) (fun ax72 cp73 n74 (hn75:n70+1≤n74) => ?_)
     refine Bq 3 2 [] [[o0],[o0,(an 3 4)]] [Qb n21,Qb n21,Qb n21] [(1,pt z),(6,Ac k),(Fj n21),(8,Ac p),(EC c),(61,Ac k),(FZ c),(94,Ac p),(Ja y55),(104,Ac q),(Xe c k y30 i p y55 q ax72 cp73),(135,i6 (Iy c k (Dj c (k:Int) false p++CQ p y55 (k:Int) false q).length)),(136,.agg (AZ.arr y30))] rfl ⟨rfl,rfl,rfl,Ae⟩ ?_
     refine AY 54 #[.agg (AZ.arr y30)] (some 137) (i6 (portOf y30)) (fun w76 hw76=>UF w76 y30 (he29.ext (hw76.ext rfl) (fun _ h=>h))) (fun n77 (hn78:n74≤n77) => ?_)
     refine Bq 5 0 [] [[(ov (i6 ((Iy c k (Dj c (k:Int) false p++CQ p y55 (k:Int) false q).length)+(portOf y30)))),o0],[(ov (i6 ((q+1:Nat):Int))),o0]] [Wr ((Iy c k (Dj c (k:Int) false p++CQ p y55 (k:Int) false q).length:Int)+(portOf y30)) ((Iy c k (Dj c (k:Int) false p++CQ p y55 (k:Int) false q).length)+(portOf y30)),Wr ((q:Int)+1) (((q+1:Nat):Int))] [(1,pt z),(6,Ac k),(Fj n21),(8,Ac p),(EC c),(61,Ac k),(FZ c),(94,Ac p),(Ja y55),(OI q),(Xe c k y30 i p y55 q ax72 cp73),(4,i6 ((Iy c k (Dj c (k:Int) false p++CQ p y55 (k:Int) false q).length)+(portOf y30)))] rfl ⟨BQ,BQ,Ae⟩ ?_
     refine BX [0,1,2,3,4,5,6] [(Ak w),(EY c z),(EX c z),(Cm z 97 5 BI.cells (.slice ax72 ((Gq c i++Iw c k++[(⟨CX c k,2,(⟨6,(k:Int),0⟩:CY)⟩:BI)]++[(⟨CX c k+2,BL y30,(⟨7,(k:Int),0⟩:CY)⟩:BI)]++IL c k (Dj c (k:Int) false p++CQ p y55 (k:Int) false q)++[(⟨Iy c k (Dj c (k:Int) false p++CQ p y55 (k:Int) false q).length,portOf y30,(⟨8,(p:Int),(q:Int)⟩:CY)⟩:BI)]).length) cp73) (Gq c i++Iw c k++[(⟨CX c k,2,(⟨6,(k:Int),0⟩:CY)⟩:BI)]++[(⟨CX c k+2,BL y30,(⟨7,(k:Int),0⟩:CY)⟩:BI)]++IL c k (Dj c (k:Int) false p++CQ p y55 (k:Int) false q)++[(⟨Iy c k (Dj c (k:Int) false p++CQ p y55 (k:Int) false q).length,portOf y30,(⟨8,(p:Int),(q:Int)⟩:CY)⟩:BI)])),(Jz y30 n21),(Jw c k n21),(JG n36 c k y30)] rfl rfl ?_
     have hT:=Ph (p:=p) (x:=y55) (k:=(k:Int)) (b:=false) (j:=q) (by rw[←hy66];exact Xk (by omega) (by revert h68;cases y66.Source <;> simp))
     refine BK [1,3,4,6,7,8,60,61,93,94,103,104] [(1,pt z),(Xe c k y30 i p y55 q ax72 cp73),(4,i6 ((Iy c k (Dj c (k:Int) false p++CQ p y55 (k:Int) false q).length)+(portOf y30))),(6,Ac k),(Fj n21),(8,Ac p),(EC c),(61,Ac k),(FZ c),(94,Ac p),(Ja y55),(OI q)] ?_
     refine BO (fun a w' hs=>⟨y55.Ap.xs.length - (q+1),by omega,n77,(q+1),ax72,cp73,rfl,by omega,by omega,by(try dsimp only[JG,Jw,EX,Jz,EY,Ru,Lr,Jf,Xe,X6,KY,Ji,Kr,Jj,H6,FZ,EC,Ja,Ii,OI,Fj,OD]at hs ⊢);rw[hT,←List.append_assoc,pcDests_push,←List.append_assoc,V9,←hy30,show Iy c k ((Dj c (k:Int) false p++CQ p y55 (k:Int) false q)++[(⟨(p:Int),(q:Int)⟩:Gp)]).length=Iy c k (Dj c (k:Int) false p++CQ p y55 (k:Int) false q).length+portOf y30 from by rw[List.length_append,List.length_singleton,dAt_succ,←hy30]];exact hs⟩)
    refine Au 9 0 [0] [[o0,(a1 7),o0,oF,o0,o0],[(ov (i6 ((q+1:Nat):Int))),o0]] [Qb n57,EF y66.Channel (k:Int),Wr ((q:Int)+1) (((q+1:Nat):Int))] [(1,pt z),(KY c k y30 i aR3 p y55 q cR3),(Kr c k p y55 q),(6,Ac k),(Fj n21),(8,Ac p),(EC c),(61,Ac k),(FZ c),(94,Ac p),(Ja y55),(OI q)] rfl ⟨rfl,ef,BQ,Ae⟩ ?_
    refine BX [0,1,2,3,4,5,6] (OD n36 c k y30 i n21 z aR3 p y55 q cR3 w) rfl rfl ?_
    have hT:=Le (p:=p) (x:=y55) (k:=(k:Int)) (b:=false) (j:=q) (by rw[←hy66];exact Wl (by omega))
    refine BK [1,3,4,6,7,8,60,61,93,94,103,104] [(1,pt z),(KY c k y30 i aR3 p y55 q cR3),(Kr c k p y55 q),(6,Ac k),(Fj n21),(8,Ac p),(EC c),(61,Ac k),(FZ c),(94,Ac p),(Ja y55),(OI q)] ?_
    refine BO (fun a w' hs=>⟨y55.Ap.xs.length - (q+1),by omega,(n57+1),(q+1),aR3,cR3,rfl,by omega,by omega,by(try dsimp only[JG,Jw,EX,Jz,EY,Ru,Lr,Jf,X6,KY,Ji,Kr,Jj,H6,FZ,EC,Ja,Ii,OI,Fj,OD]at hs ⊢);rw[hT];exact hs⟩)
   refine Au 13 0 [0] [[oF],[(ov (i6 ((p+1:Nat):Int))),o0]] [BF ((q:Int)<(y55.Ap.xs.length:Int)),Wr ((p:Int)+1) (((p+1:Nat):Int))] [(1,pt z),(KY c k y30 i aR3 p y55 q cR3),(Kr c k p y55 q),(6,Ac k),(Fj n21),(EC c),(61,Ac k),(FZ c),(94,i6 ((p+1:Nat):Int))] rfl ⟨bf,BQ,Ae⟩ ?_
   refine BO (fun a w' hs=>⟨c.Aa.xs.length - (p+1),by omega,n57,(p+1),aR3,cR3,rfl,by omega,by omega,by(try dsimp only[JG,Jw,EX,Jz,EY,Ru,Lr,Jf,KY,Ji,Kr,Jj,H6,FZ,EC,Ja,Ii,OI,Fj,OD]at hs ⊢);rw[LY,←hy55,show y55.Ap.xs.length=q by omega];exact hs⟩)
  refine Au 13 0 [0] [[oF],[(ov (i6 ((k+1:Nat):Int))),o0]] [BF ((p:Int)<(c.Aa.xs.length:Int)),Wr ((k:Int)+1) (((k+1:Nat):Int))] [(1,pt z),(Ji c k y30 i p aR2 cR2),(Jj c k p),(EC c),(61,i6 ((k+1:Nat):Int))] rfl ⟨bf,BQ,Ae⟩ ?_
  refine BX [0,1,2,3] [(Ak w),(EY c z),(EX c z),(Lr c k y30 i z p aR2 cR2)] rfl rfl ?_
  refine BK [1,3,4,60,61] [(1,pt z),(Ji c k y30 i p aR2 cR2),(Jj c k p),(EC c),(61,i6 ((k+1:Nat):Int))] ?_
  refine BO (fun a w' hs=>⟨c.Aj.xs.length - (k+1),by omega,n46,(k+1),aR2,cR2,rfl,by omega,by omega,by(try dsimp only[JG,Jw,EX,Jz,EY,Ru,Lr,Jf,KY,Ji,Kr,Jj,H6,FZ,EC,Ja,Ii,Fj,OD]at hs ⊢);rw[Yo,V7,cAt_succ,←hy30,show Kv c k=(Dj c (k:Int) false p).length from by rw[show p=c.Aa.xs.length by omega];rfl,show Cj c (k:Int) false=Dj c (k:Int) false p from by rw[show p=c.Aa.xs.length by omega];rfl,←List.append_assoc,←List.append_assoc];simp only[List.append_assoc,List.cons_append,List.nil_append]at hs ⊢;exact hs⟩)
 refine Au 12 0 [0] [[oF]] [BF ((k:Int)<(c.Aj.xs.length:Int))] [(1,pt z),(Ii c k i aR1 cR1),(4,i6 (CX c k)),(EC c),(61,Ac k),(62,.bool false)] rfl ⟨bf,Ae⟩ ?_
 have hkc:k=c.Aj.xs.length:=by omega
 have hfr:Ov c=(CX c k+16 - 1) / 16:=by rw[hkc];rfl
 refine DI [1,3,4] [(1,pt z),(Ii c k i aR1 cR1),(4,i6 (CX c k))] ?_
 refine Du (fun m a w'=>∃ (n80:Nat) (at8:Int),m=(16*Ov c - at8).toNat∧n21≤n80∧(CX c k≤at8∧at8≤16*Ov c)∧St 181 [(1,pt z),(Ii c k i aR1 cR1),(4,i6 at8)] [] ⟨w,n80,[(Ak w),(EY c z),(EX c z),(Jf c k i z aR1 cR1)]⟩ a w') ((16*Ov c - CX c k).toNat) ?_ ?_
 ·intro a w' hs;exact⟨n21,(CX c k),rfl,Nat.le_refl _,by omega,hs⟩
 rintro m a w' ⟨n80,at8,rfl,hn79,hat,hs⟩
 refine(?_:G Tryd.prog 181 [(1,pt z),(Ii c k i aR1 cR1),(4,i6 at8)] [] ⟨w,n80,[(Ak w),(EY c z),(EX c z),(Jf c k i z aR1 cR1)]⟩ _ _ _) a w' hs
 clear hs a w'
 refine CB <| CB ?_
 by_cases h81:(at8 % 16:Int)=0
 ·refine Au 15 0 [0] [[o0,(ov (i6 (at8 % 16))),oF],[o0,(a1 1),o0,o0]] [i6 (Int.tmod (at8) 16)=i6 (at8 % 16),NF (at8 % 16) 0,Qb z] [(1,pt z),(Ii c k i aR1 cR1),(4,i6 at8),(GV c),(150,i6 0)] rfl ⟨congrArg (Value.int .i64) (tmod_is (by omega) (by omega)),nf,rfl,Ae⟩ ?_
  refine Du (fun m a w'=>∃ (n83:Nat) (p:Nat) (aR5:Option Addr) (cR5:Nat),m=c.Aa.xs.length - p∧n80≤n83∧(p≤c.Aa.xs.length)∧St 181 [(1,pt z),(Je c k i p aR5 cR5),(4,i6 (16*Ec c p)),(GV c),(150,Ac p)] [] ⟨w,n83,[(Ak w),(EY c z),(EX c z),(Og c k i z p aR5 cR5)]⟩ a w') (c.Aa.xs.length - 0) ?_ ?_
  ·intro a w' hs;exact⟨n80,0,aR1,cR1,rfl,Nat.le_refl _,Nat.zero_le _,by(try dsimp only[JG,Jw,EX,Jz,EY,Lr,Og,Jf,Ji,Jj,Je,GV,H6,FZ,EC,Ii,Fj]at hs ⊢);rw[show NI c 0=[]from rfl,List.append_nil,show 16*Ec c 0=at8 from by rw[show Ec c 0=Ov c from rfl];omega];exact hs⟩
  rintro m a w' ⟨n83,p,aR5,cR5,rfl,hn82,hkp,hs⟩
  refine(?_:G Tryd.prog 181 [(1,pt z),(Je c k i p aR5 cR5),(4,i6 (16*Ec c p)),(GV c),(150,Ac p)] [] ⟨w,n83,[(Ak w),(EY c z),(EX c z),(Og c k i z p aR5 cR5)]⟩ _ _ _) a w' hs
  clear hs a w'
  have htb:=QO hfine p (by omega)
  have hlt:=ZA (c:=c) p
  refine CB ?_
  by_cases h84:(p:Int)<(c.Aa.xs.length:Int)
  ·refine Au 23 0 [1] [[oT],[o0,o0],[o0],[o0]] [BT ((p:Int)<(c.Aa.xs.length:Int))] [(1,pt z),(Je c k i p aR5 cR5),(4,i6 (16*Ec c p)),(11,Ac p),(12,i6 1),(GV c),(150,Ac p),(153,i6 0)] rfl ⟨bt,Ae⟩ ?_
   refine Du (fun m a w'=>∃ (n86:Nat) (t:Nat),m=16 - t∧n83≤n86∧(t≤16)∧St 181 [(1,pt z),(Je c k i p aR5 cR5),(4,i6 (16*Ec c p)),(11,Ac p),(Md c p t),(GV c),(150,Ac p),(153,Ac t)] [] ⟨w,n86,[(Ak w),(EY c z),(EX c z),(Og c k i z p aR5 cR5)]⟩ a w') (16 - 0) ?_ ?_
   ·intro a w' hs;exact⟨n83,0,rfl,Nat.le_refl _,Nat.zero_le _,hs⟩
   rintro m a w' ⟨n86,t,rfl,hn85,hkt,hs⟩
   refine(?_:G Tryd.prog 181 [(1,pt z),(Je c k i p aR5 cR5),(4,i6 (16*Ec c p)),(11,Ac p),(Md c p t),(GV c),(150,Ac p),(153,Ac t)] [] ⟨w,n86,[(Ak w),(EY c z),(EX c z),(Og c k i z p aR5 cR5)]⟩ _ _ _) a w' hs
   clear hs a w'
   have hcl:(List.range t).countP (fun b=>Ip (gd c.Aa.xs p) b)≤t:=Nat.le_trans List.countP_le_length (by simp)
   refine CB ?_
   by_cases h87:(t:Int)<16
   ·refine Au 14 0 [1] [[oT],[o0,o0]] [BT ((t:Int)<16)] [(1,pt z),(Je c k i p aR5 cR5),(4,i6 (16*Ec c p)),(11,Ac p),(Md c p t),(GV c),(150,Ac p),(153,Ac t),(13,Ac t)] rfl ⟨bt,Ae⟩ ?_
    obtain⟨b88,o89,ha90,hF92,hc91⟩:=(hc.Aa).1.all (show 0<c.Aa.xs.length by omega)
    replace ha90:c.Aa.a=some ⟨b88,o89,none⟩:=ha90
    have hc93:=hc91 p (show p<c.Aa.xs.length by omega)
    have he94:=(hc.Aa).2 p (show p<c.Aa.xs.length by omega)
    obtain⟨y95,hy95⟩:∃ y_,y_=gd c.Aa.xs p:=⟨_,rfl⟩
    rw[←hy95]at he94 hc93
    have h8p:=h8 p (by omega);rw[←hy95]at h8p
    refine Au 1 6 [] [[o0,(E8 1 b88 o89 c.Aa),o0,(oi p),(ol 0 (Ar.arr y95)),o0]] [Qb z,DZ b88 o89 c.Aa,CW p,p<c.Aa.xs.length,Ce,GU w b88 (o89+p*8) (Ar.arr y95)] [(1,pt z),(Je c k i p aR5 cR5),(4,i6 (16*Ec c p)),(11,Ac p),(Md c p t),(GV c),(150,Ac p),(153,Ac t),(160,.agg (Ar.arr y95)),(161,Ac t)] rfl ⟨rfl,Ea ha90,rfl,(by omega),rfl,Ei hc93,Ae⟩ ?_
    refine AY 57 #[.agg (Ar.arr y95),Ac t] (some 162) (.bool (Ip y95 t)) (fun w96 hw96=>touches_calls w96 y95 t (by omega) (he94.ext (hw96.ext rfl) (fun _ h=>h)) (Zj (by rw[hy95];exact hfine.parts p (by omega)))) (fun n97 (hn98:n86≤n97) => ?_)
    refine Dc [1,3,4,11,12,149,150,153,162] [(1,pt z),(Je c k i p aR5 cR5),(4,i6 (16*Ec c p)),(11,Ac p),(Md c p t),(GV c),(150,Ac p),(153,Ac t),(162,.bool (Ip y95 t))] ?_
    refine U5 (by kernel_rfl) ?_
    refine GG ?_
    by_cases h99:(Ip y95 t)=true
    ·refine Au 7 0 [3] [[o0,(ov (i6 (((1+(List.range t).countP (fun b=>Ip (gd c.Aa.xs p) b))+1:Nat):Int))),o0],[(ov (i6 ((t+1:Nat):Int))),o0]] [Value.bool (Ip y95 t)=Value.bool true,Wr ((((1+(List.range t).countP (fun b=>Ip (gd c.Aa.xs p) b):Nat):Int):Int)+1) ((((1+(List.range t).countP (fun b=>Ip (gd c.Aa.xs p) b))+1:Nat):Int)),Wr ((t:Int)+1) (((t+1:Nat):Int))] [(1,pt z),(Je c k i p aR5 cR5),(4,i6 (16*Ec c p)),(11,Ac p),(UL c p t),(GV c),(150,Ac p),(153,i6 ((t+1:Nat):Int))] rfl ⟨(congrArg Value.bool h99),BQ,BQ,Ae⟩ ?_
     have hT:=UB (p:=fun b=>Ip (gd c.Aa.xs p) b) (j:=t)
     rw[←hy95]at hT
     simp only[h99,if_true,if_false,Nat.add_zero]at hT
     refine BK [1,3,4,11,12,149,150,153] [(1,pt z),(Je c k i p aR5 cR5),(4,i6 (16*Ec c p)),(11,Ac p),(UL c p t),(GV c),(150,Ac p),(153,i6 ((t+1:Nat):Int))] ?_
     refine BO (fun a w' hs=>⟨16 - (t+1),by omega,n97,(t+1),rfl,by omega,by omega,by(try dsimp only[JG,Jw,EX,Jz,EY,Lr,Og,Jf,Ji,UL,Md,Jj,Je,GV,H6,FZ,EC,Ii,Fj]at hs ⊢);rw[←hy95]at hs ⊢;rw[hT];exact hs⟩)
    refine Au 6 0 [2] [[(ov (i6 ((t+1:Nat):Int))),o0]] [Value.bool (Ip y95 t)=Value.bool false,Wr ((t:Int)+1) (((t+1:Nat):Int))] [(1,pt z),(Je c k i p aR5 cR5),(4,i6 (16*Ec c p)),(11,Ac p),(Md c p t),(GV c),(150,Ac p),(153,i6 ((t+1:Nat):Int))] rfl ⟨(congrArg Value.bool (Bool.eq_false_iff.2 h99)),BQ,Ae⟩ ?_
    have hT:=UB (p:=fun b=>Ip (gd c.Aa.xs p) b) (j:=t)
    rw[←hy95]at hT
    simp only[(Bool.eq_false_iff.2 h99),Bool.false_eq_true,if_true,if_false,Nat.add_zero]at hT
    refine BK [1,3,4,11,12,149,150,153] [(1,pt z),(Je c k i p aR5 cR5),(4,i6 (16*Ec c p)),(11,Ac p),(Md c p t),(GV c),(150,Ac p),(153,i6 ((t+1:Nat):Int))] ?_
    refine BO (fun a w' hs=>⟨16 - (t+1),by omega,n97,(t+1),rfl,by omega,by omega,by(try dsimp only[JG,Jw,EX,Jz,EY,Lr,Og,Jf,Ji,UL,Md,Jj,Je,GV,H6,FZ,EC,Ii,Fj]at hs ⊢);rw[←hy95]at hs ⊢;rw[hT];exact hs⟩)
   refine Au 15 0 [0] [[oF],[o0,o0]] [BF ((t:Int)<16)] [(1,pt z),(Je c k i p aR5 cR5),(4,i6 (16*Ec c p)),(11,Ac p),(GV c),(150,Ac p),(PN c p t),(167,i6 0)] rfl ⟨bf,Ae⟩ ?_
   refine Du (fun m a w'=>∃ (n101:Nat) (u:Nat) (aR7:Option Addr) (cR7:Nat),m=(1+(List.range t).countP (fun b=>Ip (gd c.Aa.xs p) b)) - u∧n86≤n101∧(u≤(1+(List.range t).countP (fun b=>Ip (gd c.Aa.xs p) b)))∧St 181 [(1,pt z),(3,.slice aR7 ((Gq c i++Iw c k++NI c p++IQ c p u).length) cR7),(Qv c p u),(11,Ac p),(GV c),(150,Ac p),(PN c p t),(167,Ac u)] [] ⟨w,n101,[(Ak w),(EY c z),(EX c z),(UT c k i z p aR7 u cR7)]⟩ a w') ((1+(List.range t).countP (fun b=>Ip (gd c.Aa.xs p) b)) - 0) ?_ ?_
   ·intro a w' hs;exact⟨n86,0,aR5,cR5,rfl,Nat.le_refl _,Nat.zero_le _,by(try dsimp only[JG,Jw,EX,Jz,EY,Lr,UT,Og,Jf,Ji,UL,PN,Md,Jj,Je,GV,H6,FZ,EC,Ii,Qv,Fj]at hs ⊢);rw[show IQ c p 0=[]from rfl,List.append_nil,show 16*(Ec c p+((0:Nat):Int))=16*Ec c p from by omega];exact hs⟩
   rintro m a w' ⟨n101,u,aR7,cR7,rfl,hn100,hku,hs⟩
   refine(?_:G Tryd.prog 181 [(1,pt z),(3,.slice aR7 ((Gq c i++Iw c k++NI c p++IQ c p u).length) cR7),(Qv c p u),(11,Ac p),(GV c),(150,Ac p),(PN c p t),(167,Ac u)] [] ⟨w,n101,[(Ak w),(EY c z),(EX c z),(UT c k i z p aR7 u cR7)]⟩ _ _ _) a w' hs
   clear hs a w'
   have hlu:=YX (c:=c) (p:=p) (n:=u)
   refine CB ?_
   by_cases h102:(u:Int)<((1+(List.range t).countP (fun b=>Ip (gd c.Aa.xs p) b):Nat):Int)
   ·refine q_c 11 6 [1] [[oT],[o0,o0,o0,o0,o0,o0]] [BT ((u:Int)<((1+(List.range t).countP (fun b=>Ip (gd c.Aa.xs p) b):Nat):Int))] [(1,pt z),(Qv c p u),(11,Ac p),(GV c),(150,Ac p),(PN c p t),(167,Ac u),(169,.slice aR7 ((Gq c i++Iw c k++NI c p++IQ c p u).length) cR7),(174,.slice (some ⟨n101,0,none⟩) 1 1)] ⟨w,n101+1,[(Ak w),(EY c z),(EX c z),(UT c k i z p aR7 u cR7),(bk n101 #[i6 (16*(Ec c p+(u:Int))),i6 16,i6 9,Ac p,i6 0] 97)]⟩ rfl ⟨bt,Ae⟩ ?_
    refine NY z 3 4 (Gq c i++Iw c k++NI c p++IQ c p u) [(⟨16*(Ec c p+(u:Int)),16,(⟨9,(p:Int),0⟩:CY)⟩:BI)] BI.cells 97 5 40 (.slice aR7 ((Gq c i++Iw c k++NI c p++IQ c p u).length) cR7) n101 1 1 #[i6 (16*(Ec c p+(u:Int))),i6 16,i6 9,Ac p,i6 0] 97 (0,0) true (some 175) (by simp only[List.length_cons,List.length_nil,List.length_append];omega) (show z≤n101+1 by omega) (fun ax103 cp104 n105 (hn106:n101+1≤n105) => ?_)
    refine Bq 8 0 [] [[o0],[o0,(ov (i6 ((16*(Ec c p+(u:Int)))+16))),o0],[(ov (i6 ((u+1:Nat):Int))),o0]] [Wr ((16*(Ec c p+(u:Int)):Int)+16) ((16*(Ec c p+(u:Int)))+16),Wr ((u:Int)+1) (((u+1:Nat):Int))] [(1,pt z),(4,i6 ((16*(Ec c p+(u:Int)))+16)),(11,Ac p),(GV c),(150,Ac p),(PN c p t),(167,i6 ((u+1:Nat):Int)),(3,.slice ax103 ((Gq c i++Iw c k++NI c p++IQ c p u++[(⟨16*(Ec c p+(u:Int)),16,(⟨9,(p:Int),0⟩:CY)⟩:BI)]).length) cp104)] rfl ⟨BQ,BQ,Ae⟩ ?_
    refine BX [0,1,2,3] [(Ak w),(EY c z),(EX c z),(Cm z 97 5 BI.cells (.slice ax103 ((Gq c i++Iw c k++NI c p++IQ c p u++[(⟨16*(Ec c p+(u:Int)),16,(⟨9,(p:Int),0⟩:CY)⟩:BI)]).length) cp104) (Gq c i++Iw c k++NI c p++IQ c p u++[(⟨16*(Ec c p+(u:Int)),16,(⟨9,(p:Int),0⟩:CY)⟩:BI)]))] rfl rfl ?_
    refine BK [1,3,4,11,149,150,166,167] [(1,pt z),(3,.slice ax103 ((Gq c i++Iw c k++NI c p++IQ c p u++[(⟨16*(Ec c p+(u:Int)),16,(⟨9,(p:Int),0⟩:CY)⟩:BI)]).length) cp104),(4,i6 ((16*(Ec c p+(u:Int)))+16)),(11,Ac p),(GV c),(150,Ac p),(PN c p t),(167,i6 ((u+1:Nat):Int))] ?_
    refine BO (fun a w' hs=>⟨(1+(List.range t).countP (fun b=>Ip (gd c.Aa.xs p) b)) - (u+1),by omega,n105,(u+1),ax103,cp104,rfl,by omega,by omega,by(try dsimp only[JG,Jw,EX,Jz,EY,Lr,UT,Og,Jf,Ji,PN,Md,Jj,Je,GV,H6,FZ,EC,Ii,Qv,Fj]at hs ⊢);rw[UG,←List.append_assoc,show 16*(Ec c p+((u+1:Nat):Int))=(16*(Ec c p+(u:Int)))+16 from by omega];exact hs⟩)
   refine Au 13 0 [0] [[oF],[(ov (i6 ((p+1:Nat):Int))),o0]] [BF ((u:Int)<((1+(List.range t).countP (fun b=>Ip (gd c.Aa.xs p) b):Nat):Int)),Wr ((p:Int)+1) (((p+1:Nat):Int))] [(1,pt z),(3,.slice aR7 ((Gq c i++Iw c k++NI c p++IQ c p u).length) cR7),(Qv c p u),(GV c),(150,i6 ((p+1:Nat):Int))] rfl ⟨bf,BQ,Ae⟩ ?_
   have hnn:1+Jr (gd c.Aa.xs p)=u:=by rw[←tabsN_touch (Zj (hfine.parts p (by omega))),show 16=t by omega];omega
   refine BK [1,3,4,149,150] [(1,pt z),(3,.slice aR7 ((Gq c i++Iw c k++NI c p++IQ c p u).length) cR7),(Qv c p u),(GV c),(150,i6 ((p+1:Nat):Int))] ?_
   refine BO (fun a w' hs=>⟨c.Aa.xs.length - (p+1),by omega,n101,(p+1),aR7,cR7,rfl,by omega,by omega,by(try dsimp only[JG,Jw,EX,Jz,EY,Lr,UT,Og,Jf,Ji,PN,Md,Jj,Je,GV,H6,FZ,EC,Ii,Qv,Fj]at hs ⊢);rw[Yj,hnn,←List.append_assoc,show 16*Ec c (p+1)=16*(Ec c p+(u:Int))from by rw[Uw];omega];exact hs⟩)
  refine Au 15 0 [0] [[oF],[o0,o0]] [BF ((p:Int)<(c.Aa.xs.length:Int))] [(2,.slice aR5 ((Gq c i++Iw c k++NI c p).length) cR5)] rfl ⟨bf,Ae⟩ ?_
  refine Az [] [] (.slice aR5 ((Gq c i++Iw c k++NI c p).length) cR5) Ae ?_
  intro w107 hw107
  have hpo:Gq c i++Iw c k++NI c p=Df c:=by rw[show i=c.Aa.xs.length by omega,show k=c.Aj.xs.length by omega,show p=c.Aa.xs.length by omega];rfl
  have hrow:=hw107.at (i:=3) rfl
  (try dsimp only[JG,Jw,EX,Jz,EY,Lr,Og,Jf,Ji,Md,Jj,Je,GV,H6,FZ,EC,Ii,Fj]at hrow)
  rw[hpo]at hrow ⊢
  exact⟨_,_,rfl,hz ▸ Sv (fun _=>rfl) hrow (by have:=pieces_len hfine;omega),AA hw107⟩
 refine Au 10 0 [1] [[o0,(ov (i6 (at8 % 16))),oT],[o0,(ov (i6 (at8+1))),o0]] [i6 (Int.tmod (at8) 16)=i6 (at8 % 16),NT (at8 % 16) 0,Wr ((at8:Int)+1) (at8+1)] [(1,pt z),(Ii c k i aR1 cR1),(4,i6 (at8+1))] rfl ⟨congrArg (Value.int .i64) (tmod_is (by omega) (by omega)),nt,BQ,Ae⟩ ?_
 refine BO (fun a w' hs=>⟨(16*Ov c - (at8+1)).toNat,by omega,n80,(at8+1),rfl,by omega,by omega,hs⟩)
def nP(p:Aq):Aq:={ p with Tables:=⟨none,0,p.Tables.xs⟩ }
def nC(p:A8):A8:={ p with DJ:=⟨none,0,p.DJ.xs⟩ }
structure Fold where
 bar:Int
 ps:List Aq
 cs:List A8
 ch:Int
 fin:Int
def Ut(p:Aq)(at_:Int):Aq:=if p.Root=0 then{ p with Root:=at_ / 16 }else{ p with Tables:=⟨none,0,p.Tables.xs++[at_ / 16]⟩ }
def dstF(p:A8)(y:BI):A8:={ p with DJ:=⟨none,0,p.DJ.xs++[⟨y.AB.Index,y.AB.Port,y.At⟩]⟩ }
def IX(F:Fold)(y:BI):Fold :=
 if y.AB.Kind=2 then{ F with bar:=y.At,fin:=y.At+y.Size }
 else if y.AB.Kind=3 then{ F with ps:=F.ps.set y.AB.Index.toNat { gd F.ps y.AB.Index.toNat with Lock:=y.At },fin:=y.At+y.Size }
 else if y.AB.Kind=4 then{ F with ps:=F.ps.set y.AB.Index.toNat { gd F.ps y.AB.Index.toNat with Oq:=y.At },fin:=y.At+y.Size }
 else if y.AB.Kind=5 then{ F with ps:=F.ps.set y.AB.Index.toNat { gd F.ps y.AB.Index.toNat with State:=y.At },fin:=y.At+y.Size }
 else if y.AB.Kind=6 then{ F with cs:=F.cs.set y.AB.Index.toNat { gd F.cs y.AB.Index.toNat with Lock:=y.At },ch:=y.AB.Index,fin:=y.At+y.Size }
 else if y.AB.Kind=7 then{ F with cs:=F.cs.set y.AB.Index.toNat { gd F.cs y.AB.Index.toNat with Pg:=y.At },fin:=y.At+y.Size }
 else if y.AB.Kind=8 then{ F with cs:=F.cs.set F.ch.toNat (dstF (gd F.cs F.ch.toNat) y),fin:=y.At+y.Size }
 else{ F with ps:=F.ps.set y.AB.Index.toNat (Ut (gd F.ps y.AB.Index.toNat) y.At),fin:=y.At+y.Size }
def SY(c:Ai)(k:Nat):A8:=⟨0,0,(gd (Cj c (k:Int) true) 0).partition,(gd (Cj c (k:Int) true) 0).port,⟨none,0,[]⟩⟩
def F0(c:Ai):Fold:=⟨0,(List.range c.Aa.xs.length).map (fun _=>⟨0,0,0,0,⟨none,0,[]⟩⟩),(List.range c.Aj.xs.length).map (SY c),0,16*c.Kernel⟩
theorem map_set{α:Type}{n k:Nat}{f g:Nat→α}{v:α}(h1:g k=v)(h2:∀ q,q≠k→g q=f q):((List.range n).map f).set k v=(List.range n).map g:=by
 apply List.ext_getElem (by simp)
 intro i hi hi'
 rw[List.getElem_set]
 simp only[List.getElem_map,List.getElem_range]
 split
 ·rename_i e;subst e;exact h1.symm
 rename_i e;exact(h2 i (fun x=>e x.symm)).symm
theorem Vp{α:Type}[Inhabited α]{n k:Nat}{f:Nat→α}(hk:k<n):gd ((List.range n).map f) k=f k:=by rw[Gv (by simpa using hk)];simp
def XZ(c:Ai)(i:Nat):Nat→Aq:=fun p=>if p<i then PM c p else⟨0,0,0,0,⟨none,0,[]⟩⟩
theorem foldP(c:Ai):∀ (i:Nat),i≤c.Aa.xs.length→∃ fin,(Gq c i).foldl IX (F0 c)=⟨16*c.Kernel,(List.range c.Aa.xs.length).map (XZ c i),(F0 c).cs,0,fin⟩∧(i=0→fin=16*c.Kernel+2)
 | 0,_=>⟨16*c.Kernel+2,rfl,fun _=>rfl⟩
 | i+1,h=>by
  obtain⟨fin,e, -⟩:=foldP c i (by omega)
  refine⟨CV c i+2+17+5, ?_,fun h=>by omega⟩
  rw[Yq,List.foldl_append,List.foldl_append,List.foldl_append,e]
  have hl:i<((List.range c.Aa.xs.length).map (XZ c i)).length:=by simp;omega
  have hg:gd ((List.range c.Aa.xs.length).map (XZ c i)) i=⟨0,0,0,0,⟨none,0,[]⟩⟩:=by rw[Vp (by omega)];simp[XZ]
  simp only[List.foldl_cons,List.foldl_nil,IX,Int.toNat_natCast]
  simp only[if_true,if_false,reduceIte,show ¬ ((3:Int)=2)by decide,show ¬ ((4:Int)=2)by decide,show ¬ ((4:Int)=3)by decide,show ¬ ((5:Int)=2)by decide,show ¬ ((5:Int)=3)by decide,show ¬ ((5:Int)=4)by decide]
  rw[hg,NM hl,List.set_set,NM (by simpa using hl),List.set_set]
  rw[map_set (g:=XZ c (i+1)) (by simp[XZ,PM]) (fun q hq=>by unfold XZ;by_cases e:q<i <;> simp[e,show(q<i+1)=(q<i∨q=i)by apply propext;omega,hq])]
theorem foldDests(c:Ai)(k:Nat)(b:Int)(ps:List Aq)(cs:List A8)(hk:k<cs.length)(hc0:(gd cs k).DJ=⟨none,0,[]⟩)(fin:Int)(l:List Gp)(hl:∀ j,j<l.length→gd l j=gd (Cj c (k:Int) false) j):∀ (j:Nat),j≤l.length→∃ fin',((List.range j).map (fun j=>V9 c k (gd l j) j)).foldl IX ⟨b,ps,cs,(k:Int),fin⟩=⟨b,ps,cs.set k { gd cs k with DJ:=⟨none,0,Ff c k j⟩ },(k:Int),fin'⟩
 | 0,_=>⟨fin,by
  show _=(⟨b,ps,cs.set k { gd cs k with DJ:=⟨none,0,[]⟩ },(k:Int),fin⟩:Fold)
  rw[←hc0,show({ gd cs k with DJ:=(gd cs k).DJ }:A8)=gd cs k from rfl,Gv hk,List.set_getElem_self];rfl⟩
 | j+1,h=>by
  obtain⟨fin',e⟩:=foldDests c k b ps cs hk hc0 fin l hl j (by omega)
  refine⟨Iy c k j+portOf (gd c.Aj.xs k), ?_⟩
  rw[List.range_succ,List.map_append,List.foldl_append,e]
  simp only[List.map_cons,List.map_nil,List.foldl_cons,List.foldl_nil,IX,V9,Int.toNat_natCast]
  simp only[if_true,if_false,reduceIte,show ¬ ((8:Int)=2)by decide,show ¬ ((8:Int)=3)by decide,show ¬ ((8:Int)=4)by decide,show ¬ ((8:Int)=5)by decide,show ¬ ((8:Int)=6)by decide,show ¬ ((8:Int)=7)by decide]
  rw[NM hk,List.set_set,dstF,WT,hl j (by omega)]
  rfl
def VU(c:Ai)(k:Nat):Nat→A8:=fun q=>if q<k then JF c q ⟨none,0,Ff c q (Kv c q)⟩else SY c q
theorem foldC(c:Ai)(b:Int)(ps:List Aq)(fin:Int):∀ (k:Nat),k≤c.Aj.xs.length→∃ ch fin',(Iw c k).foldl IX ⟨b,ps,(F0 c).cs,0,fin⟩=⟨b,ps,(List.range c.Aj.xs.length).map (VU c k),ch,fin'⟩∧(k=0→fin'=fin)
 | 0,_=>⟨0,fin,rfl,fun _=>rfl⟩
 | k+1,h=>by
  obtain⟨ch,fin',e, -⟩:=foldC c b ps fin k (by omega)
  have hg:gd ((List.range c.Aj.xs.length).map (VU c k)) k=SY c k:=by rw[Vp (by omega)];simp[VU]
  have hl:k<((List.range c.Aj.xs.length).map (VU c k)).length:=by simp;omega
  rw[Yo,List.foldl_append,e,V7,List.foldl_append]
  simp only[List.foldl_cons,List.foldl_nil,IX,Int.toNat_natCast]
  simp only[if_true,if_false,reduceIte,show ¬ ((6:Int)=2)by decide,show ¬ ((6:Int)=3)by decide,show ¬ ((6:Int)=4)by decide,show ¬ ((6:Int)=5)by decide,show ¬ ((7:Int)=2)by decide,show ¬ ((7:Int)=3)by decide,show ¬ ((7:Int)=4)by decide,show ¬ ((7:Int)=5)by decide,show ¬ ((7:Int)=6)by decide]
  rw[hg,NM hl,List.set_set]
  obtain⟨fin'',e2⟩:=foldDests c k b ps (((List.range c.Aj.xs.length).map (VU c k)).set k { SY c k with Lock:=CX c k,Pg:=CX c k+2 }) (by simpa using hl) (by rw[NM hl];rfl) (CX c k+2+BL (gd c.Aj.xs k)) (Cj c (k:Int) false) (fun j hj=>rfl) (Cj c (k:Int) false).length (Nat.le_refl _)
  refine⟨(k:Int),fin'', ?_,fun h=>by omega⟩
  rw[IL,e2,NM hl,List.set_set,map_set (g:=VU c (k+1)) (by simp only[VU,Nat.lt_succ_self,if_true];rfl) (fun q hq=>by unfold VU;by_cases e:q<k <;> simp[e,show(q<k+1)=(q<k∨q=k)by apply propext;omega,hq])]
theorem ZI{c:Ai}(hf:Fine c):∀ (p:Nat),1≤Ec c p
 | 0=>by
  have h1:=(Sz hf _ (Nat.le_refl _)).1
  have h2:=hf.kn
  show 1≤Ov c
  unfold Ov
  unfold CV at h1
  omega
 | p+1=>by have:=ZI hf p;rw[Uw];omega
theorem foldTabs(c:Ai)(hf:Fine c)(p:Nat)(b ch fin:Int)(ps:List Aq)(cs:List A8)(hp:p<ps.length)(h0:gd ps p=PM c p):∀ (u:Nat),(IQ c p (u+1)).foldl IX ⟨b,ps,cs,ch,fin⟩=⟨b,ps.set p (GN c p ⟨none,0,FP c p u⟩),cs,ch,16*(Ec c p+(u:Int))+16⟩
 | 0=>by
  rw[UG]
  simp only[IQ,List.range_zero,List.map_nil,List.nil_append,List.foldl_cons,List.foldl_nil,IX,Int.toNat_natCast]
  simp only[if_true,if_false,reduceIte,show ¬ ((9:Int)=2)by decide,show ¬ ((9:Int)=3)by decide,show ¬ ((9:Int)=4)by decide,show ¬ ((9:Int)=5)by decide,show ¬ ((9:Int)=6)by decide,show ¬ ((9:Int)=7)by decide,show ¬ ((9:Int)=8)by decide]
  rw[h0]
  have:Ut (PM c p) (16*(Ec c p+((0:Nat):Int)))=GN c p ⟨none,0,FP c p 0⟩:=by
   unfold Ut
   rw[if_pos (show(PM c p).Root=0 from rfl)]
   show(⟨CV c p,CV c p+2,CV c p+2+17,_,⟨none,0,[]⟩⟩:Aq)=_
   rw[show 16*(Ec c p+((0:Nat):Int)) / 16=Ec c p by omega];rfl
  rw[this]
 | u+1=>by
  have ht:=ZI hf p
  rw[UG,List.foldl_append,foldTabs c hf p b ch fin ps cs hp h0 u]
  simp only[List.foldl_cons,List.foldl_nil,IX,Int.toNat_natCast]
  simp only[if_true,if_false,reduceIte,show ¬ ((9:Int)=2)by decide,show ¬ ((9:Int)=3)by decide,show ¬ ((9:Int)=4)by decide,show ¬ ((9:Int)=5)by decide,show ¬ ((9:Int)=6)by decide,show ¬ ((9:Int)=7)by decide,show ¬ ((9:Int)=8)by decide]
  rw[NM hp,List.set_set]
  have:Ut (GN c p ⟨none,0,FP c p u⟩) (16*(Ec c p+((u+1:Nat):Int)))=GN c p ⟨none,0,FP c p (u+1)⟩:=by
   unfold Ut
   rw[if_neg (show ¬ (GN c p ⟨none,0,FP c p u⟩).Root=0 by show ¬ Ec c p=0;omega)]
   rw[Yc]
   show(⟨CV c p,CV c p+2,CV c p+2+17,Ec c p,⟨none,0,FP c p u++[_]⟩⟩:Aq)=_
   rw[show 16*(Ec c p+((u+1:Nat):Int)) / 16=Ec c p+1+(u:Int)by omega];rfl
  rw[this]
def psT(c:Ai)(i:Nat):Nat→Aq:=fun p=>if p<i then GN c p ⟨none,0,FP c p (Jr (gd c.Aa.xs p))⟩else PM c p
theorem foldT(c:Ai)(hf:Fine c)(b ch fin:Int)(cs:List A8):∀ (i:Nat),i≤c.Aa.xs.length→∃ fin',(NI c i).foldl IX ⟨b,(List.range c.Aa.xs.length).map (psT c 0),cs,ch,fin⟩=⟨b,(List.range c.Aa.xs.length).map (psT c i),cs,ch,fin'⟩∧(i=0→fin'=fin)∧(0<i→fin'=16*Ec c i)
 | 0,_=>⟨fin,rfl,fun _=>rfl,fun h=>by omega⟩
 | i+1,h=>by
  obtain⟨fin',e, -, -⟩:=foldT c hf b ch fin cs i (by omega)
  have hl:i<((List.range c.Aa.xs.length).map (psT c i)).length:=by simp;omega
  refine⟨16*(Ec c i+((Jr (gd c.Aa.xs i):Nat):Int))+16, ?_,fun h=>by omega,fun _ => ?_⟩
  ·rw[Yj,List.foldl_append,e,Nat.add_comm 1 (Jr (gd c.Aa.xs i)),foldTabs c hf i b ch fin' _ cs hl (by rw[Vp (by omega)];simp[psT])]
   rw[map_set (g:=psT c (i+1)) (by simp[psT]) (fun q hq=>by unfold psT;by_cases e:q<i <;> simp[e,show(q<i+1)=(q<i∨q=i)by apply propext;omega,hq])]
  rw[Uw];omega
theorem fold_all(c:Ai)(hf:Fine c):∃ ch fin,(Df c).foldl IX (F0 c)=⟨16*c.Kernel,(List.range c.Aa.xs.length).map (psT c c.Aa.xs.length),(List.range c.Aj.xs.length).map (VU c c.Aj.xs.length),ch,fin⟩∧(fin+16 - 1) / 16=Ec c c.Aa.xs.length:=by
 obtain⟨f1,e1,g1⟩:=foldP c _ (Nat.le_refl _)
 obtain⟨ch,f2,e2,g2⟩:=foldC c (16*c.Kernel) ((List.range c.Aa.xs.length).map (XZ c c.Aa.xs.length)) f1 _ (Nat.le_refl _)
 have hpt:(List.range c.Aa.xs.length).map (XZ c c.Aa.xs.length)=(List.range c.Aa.xs.length).map (psT c 0):=List.map_congr_left fun p hp=>by simp[XZ,psT,List.mem_range.1 hp]
 obtain⟨f3,e3,g3,g4⟩:=foldT c hf (16*c.Kernel) ch f2 ((List.range c.Aj.xs.length).map (VU c c.Aj.xs.length)) _ (Nat.le_refl _)
 refine⟨ch,f3, ?_, ?_⟩
 ·unfold Df
  rw[List.foldl_append,List.foldl_append,e1,e2,hpt,e3]
 by_cases h0:c.Aa.xs.length=0
 ·have hc0:c.Aj.xs.length=0:=by
   rcases Nat.eq_zero_or_pos c.Aj.xs.length with h | h
   ·exact h
   exfalso
   have:=(hf.X7 h).1
   rw[Rt]at this
   unfold Ju Gn at this
   rw[h0]at this
   simp at this
  have a1:=g1 h0;have a2:=g2 hc0;have a3:=g3 h0
  rw[h0,show Ec c 0=(CX c c.Aj.xs.length+16 - 1) / 16 from rfl,hc0,show CX c 0=CV c c.Aa.xs.length from rfl,h0,show CV c 0=c.Kernel*16+2+24*((0:Nat):Int)from rfl]
  omega
 have a4:=g4 (by omega)
 omega
theorem MR{α β:Type}[Inhabited α][Inhabited β]{f:α→β}{xs:List α}{n:Nat}(h:n<xs.length):gd (xs.map f) n=f (gd xs n):=by rw[Gv (by simpa using h),Gv h];simp
theorem RU{α β:Type}[Inhabited α]{f:α→β}{xs:List α}{n:Nat}{T:α}(hn:n<xs.length)(h:f T=f (gd xs n)):(xs.set n T).map f=xs.map f:=by
 rw[List.map_set,h,Gv hn,←List.getElem_map (f:=f) (h:=by simpa using hn),List.set_getElem_self]
def BU(c:Ai)(m:Nat):Fold:=((Df c).take m).foldl IX (F0 c)
theorem JI{c:Ai}{m:Nat}(h:m<(Df c).length):BU c (m+1)=IX (BU c m) (gd (Df c) m):=by
 unfold BU;rw[take_snoc h,List.foldl_append];rfl
def WB(c:Ai)(y:BI):Prop:=2≤y.AB.Kind∧y.AB.Kind≤9∧0≤y.At∧y.At≤200000∧0≤y.Size∧y.Size≤1000∧0≤y.AB.Index∧y.AB.Index≤1000∧0≤y.AB.Port∧y.AB.Port≤1000 ∧
 ((y.AB.Kind=3∨y.AB.Kind=4∨y.AB.Kind=5∨y.AB.Kind=9)→y.AB.Index<(c.Aa.xs.length:Int))∧((y.AB.Kind=6∨y.AB.Kind=7)→y.AB.Index<(c.Aj.xs.length:Int))∧(y.AB.Kind=8→1≤c.Aj.xs.length)
theorem pc_mem{c:Ai}(hf:Fine c):∀ y∈Df c,WB c y:=by
 have hkn:=hf.kn;have hpn:=hf.pn;have hcn:=hf.cn
 intro y hy
 unfold Df at hy
 rw[List.mem_append,List.mem_append]at hy
 rcases hy with(hy | hy) | hy
 ·unfold Gq at hy
  rw[List.mem_append]at hy
  rcases hy with hy | hy
  ·simp only[List.mem_singleton]at hy;subst hy;unfold WB;simp only;omega
  simp only[List.mem_flatMap,List.mem_range]at hy
  obtain⟨i,hi,hy⟩:=hy
  simp only[pcPart,List.mem_cons,List.not_mem_nil,or_false]at hy
  have hp:CV c i=c.Kernel*16+2+24*(i:Int):=rfl
  rcases hy with rfl | rfl | rfl <;> (unfold WB;simp only;omega)
 ·simp only[Iw,List.mem_flatMap,List.mem_range]at hy
  obtain⟨k,hk,hy⟩:=hy
  have hb:=Sz hf k (by omega)
  have hp0:CV c c.Aa.xs.length=c.Kernel*16+2+24*(c.Aa.xs.length:Int):=rfl
  have hs:=NH (gd c.Aj.xs k)
  have hp:=TU (gd c.Aj.xs k)
  have hd:=hf.X7 hk
  unfold V7 at hy
  rw[List.mem_append]at hy
  rcases hy with hy | hy
  ·simp only[List.mem_cons,List.not_mem_nil,or_false]at hy
   rcases hy with rfl | rfl <;> (unfold WB;simp only;omega)
  simp only[IL,List.mem_map,List.mem_range]at hy
  obtain⟨j,hj,rfl⟩:=hy
  have hdb:=dAt_bd hf hk (show j≤4 by unfold Kv at hd;omega)
  have he:=Xw (k:=(k:Int)) (b:=false) (fun i hi=>Ol (hf.parts i hi)) hpn (gd (Cj c (k:Int) false) j) (by rw[Gv hj];exact List.getElem_mem hj)
  unfold WB V9;simp only;omega
 simp only[NI,List.mem_flatMap,List.mem_range]at hy
 obtain⟨p,hp,hy⟩:=hy
 simp only[IQ,List.mem_map,List.mem_range]at hy
 obtain⟨u,hu,rfl⟩:=hy
 have ht:=QO hf p (by omega)
 have hn:=U3 (gd c.Aa.xs p)
 unfold WB;simp only;omega
theorem pc_in{c:Ai}(hf:Fine c){m:Nat}(h:m<(Df c).length):WB c (gd (Df c) m):=pc_mem hf _ (by rw[Gv h];exact List.getElem_mem h)
theorem pc_ink{F:Nat→Prop}{W:World}{c:Ai}(hf:Fine c):∀ i,i<(Df c).length→BI.ok F W (gd (Df c) i):=fun i hi=>by
 obtain⟨a1,a2,a3,a4,a5,a6,a7,a8,a9,a10, -⟩:=pc_in hf hi
 exact⟨PX a3 (by omega),PX a5 (by omega),⟨PX (by omega) (by omega),PX a7 (by omega),PX a9 (by omega)⟩⟩
theorem st2(F:Fold)(y:BI)(h:y.AB.Kind=2):IX F y=⟨y.At,F.ps,F.cs,F.ch,y.At+y.Size⟩:=by unfold IX;rw[if_pos h]
theorem st3(F:Fold)(y:BI)(h:y.AB.Kind=3):IX F y=⟨F.bar,F.ps.set y.AB.Index.toNat { gd F.ps y.AB.Index.toNat with Lock:=y.At },F.cs,F.ch,y.At+y.Size⟩:=by unfold IX;rw[if_neg (by omega),if_pos h]
theorem st4(F:Fold)(y:BI)(h:y.AB.Kind=4):IX F y=⟨F.bar,F.ps.set y.AB.Index.toNat { gd F.ps y.AB.Index.toNat with Oq:=y.At },F.cs,F.ch,y.At+y.Size⟩:=by unfold IX;rw[if_neg (by omega),if_neg (by omega),if_pos h]
theorem st5(F:Fold)(y:BI)(h:y.AB.Kind=5):IX F y=⟨F.bar,F.ps.set y.AB.Index.toNat { gd F.ps y.AB.Index.toNat with State:=y.At },F.cs,F.ch,y.At+y.Size⟩:=by unfold IX;rw[if_neg (by omega),if_neg (by omega),if_neg (by omega),if_pos h]
theorem st6(F:Fold)(y:BI)(h:y.AB.Kind=6):IX F y=⟨F.bar,F.ps,F.cs.set y.AB.Index.toNat { gd F.cs y.AB.Index.toNat with Lock:=y.At },y.AB.Index,y.At+y.Size⟩:=by unfold IX;rw[if_neg (by omega),if_neg (by omega),if_neg (by omega),if_neg (by omega),if_pos h]
theorem st7(F:Fold)(y:BI)(h:y.AB.Kind=7):IX F y=⟨F.bar,F.ps,F.cs.set y.AB.Index.toNat { gd F.cs y.AB.Index.toNat with Pg:=y.At },F.ch,y.At+y.Size⟩:=by unfold IX;rw[if_neg (by omega),if_neg (by omega),if_neg (by omega),if_neg (by omega),if_neg (by omega),if_pos h]
theorem st8(F:Fold)(y:BI)(h:y.AB.Kind=8):IX F y=⟨F.bar,F.ps,F.cs.set F.ch.toNat (dstF (gd F.cs F.ch.toNat) y),F.ch,y.At+y.Size⟩:=by unfold IX;rw[if_neg (by omega),if_neg (by omega),if_neg (by omega),if_neg (by omega),if_neg (by omega),if_neg (by omega),if_pos h]
theorem st9(F:Fold)(y:BI)(h:y.AB.Kind=9):IX F y=⟨F.bar,F.ps.set y.AB.Index.toNat (Ut (gd F.ps y.AB.Index.toNat) y.At),F.cs,F.ch,y.At+y.Size⟩:=by unfold IX;rw[if_neg (by omega),if_neg (by omega),if_neg (by omega),if_neg (by omega),if_neg (by omega),if_neg (by omega),if_neg (by omega)]
theorem foldUp_ch{c:Ai}(hf:Fine c):∀ (m:Nat),m≤(Df c).length→0≤(BU c m).ch∧((BU c m).ch<(c.Aj.xs.length:Int)∨(BU c m).ch=0)
 | 0,_=>⟨Int.le_refl _,.inr rfl⟩
 | m+1,h=>by
  have ih:=foldUp_ch hf m (by omega)
  obtain⟨a1,a2,a3,a4,a5,a6,a7,a8,a9,a10,a11,a12,a13⟩:=pc_in hf (show m<(Df c).length by omega)
  rw[JI (by omega)]
  generalize gd (Df c) m=y at *
  have hk:y.AB.Kind=2∨y.AB.Kind=3∨y.AB.Kind=4∨y.AB.Kind=5∨y.AB.Kind=6∨y.AB.Kind=7∨y.AB.Kind=8∨y.AB.Kind=9:=by omega
  rcases hk with h | h | h | h | h | h | h | h
  ·rw[st2 _ _ h];exact ih
  ·rw[st3 _ _ h];exact ih
  ·rw[st4 _ _ h];exact ih
  ·rw[st5 _ _ h];exact ih
  ·rw[st6 _ _ h];exact⟨a7,.inl (a12 (.inl h))⟩
  ·rw[st7 _ _ h];exact ih
  ·rw[st8 _ _ h];exact ih
  rw[st9 _ _ h];exact ih
theorem YY{c:Ai}(hf:Fine c):(BU c (Df c).length).bar=16*c.Kernel∧(BU c (Df c).length).ps=(List.range c.Aa.xs.length).map (psT c c.Aa.xs.length)∧(BU c (Df c).length).cs=(List.range c.Aj.xs.length).map (VU c c.Aj.xs.length)∧((BU c (Df c).length).fin+16 - 1) / 16=Ec c c.Aa.xs.length:=by
 obtain⟨ch,fin,e,h⟩:=fold_all c hf
 unfold BU
 rw[List.take_length,e]
 exact⟨rfl,rfl,rfl,h⟩
def Pm(c:Ai)(k:Nat):List A8:=(List.range c.Aj.xs.length).map (fun q=>if q<k then SY c q else⟨0,0,0,0,⟨none,0,[]⟩⟩)
theorem csUp_zero{c:Ai}:Pm c 0=List.replicate c.Aj.xs.length ⟨0,0,0,0,⟨none,0,[]⟩⟩:=by
 unfold Pm;apply List.ext_getElem (by simp);intro i h1 h2;simp
theorem csUp_len{c:Ai}{k:Nat}:(Pm c k).length=c.Aj.xs.length:=by simp[Pm]
theorem csUp_at{c:Ai}{k:Nat}(h:k<c.Aj.xs.length):gd (Pm c k) k=⟨0,0,0,0,⟨none,0,[]⟩⟩:=by unfold Pm;rw[Vp h];simp
theorem csUp_succ{c:Ai}{k:Nat}:(Pm c k).set k (SY c k)=Pm c (k+1):=by
 unfold Pm
 rw[map_set (g:=fun q=>if q<k+1 then SY c q else⟨0,0,0,0,⟨none,0,[]⟩⟩) (by simp) (fun q hq=>by by_cases e:q<k <;> simp[e,show(q<k+1)=(q<k∨q=k)by apply propext;omega,hq])]
theorem csUp_all{c:Ai}:Pm c c.Aj.xs.length=(F0 c).cs:=List.map_congr_left fun q hq=>by simp[List.mem_range.1 hq]
theorem csUp_nil{c:Ai}{k:Nat}:(Pm c k).map A8.DJ=List.replicate c.Aj.xs.length ⟨none,0,[]⟩:=by
 apply List.ext_getElem (by simp[Pm])
 intro i h1 h2
 simp only[Pm,List.getElem_map,List.getElem_range,List.getElem_replicate]
 split <;> rfl
theorem un_nP{c:Ai}{p:Nat}{x:Aq}{l:List Int}(h:nP x=GN c p ⟨none,0,l⟩):∃ a cp,x=GN c p ⟨a,cp,l⟩:=by
 obtain⟨x1,x2,x3,x4,a,cp,xs⟩:=x
 simp only[nP,GN,Aq.mk.injEq,Sl.mk.injEq,true_and]at h
 obtain⟨rfl,rfl,rfl,rfl,rfl⟩:=h
 exact⟨a,cp,rfl⟩
theorem un_nC{c:Ai}{k:Nat}{x:A8}{l:List BH}(h:nC x=JF c k ⟨none,0,l⟩):∃ a cp,x=JF c k ⟨a,cp,l⟩:=by
 obtain⟨x1,x2,x3,x4,a,cp,xs⟩:=x
 simp only[nC,JF,A8.mk.injEq,Sl.mk.injEq,true_and]at h
 obtain⟨rfl,rfl,rfl,rfl,rfl⟩:=h
 exact⟨a,cp,rfl⟩
theorem lay_of{c:Ai}(hf:Fine c){ps:List Aq}{cs:List A8}{a b:Option Addr}{n k:Nat}(h1:ps.map nP=(BU c (Df c).length).ps)(h2:cs.map nC=(BU c (Df c).length).cs):VG c ⟨(BU c (Df c).length).bar,⟨a,n,ps⟩,⟨b,k,cs⟩,((BU c (Df c).length).fin+16 - 1) / 16⟩:=by
 obtain⟨e1,e2,e3,e4⟩:=YY hf
 rw[e2]at h1
 rw[e3]at h2
 have hl1:ps.length=c.Aa.xs.length:=by have:=congrArg List.length h1;simpa using this
 have hl2:cs.length=c.Aj.xs.length:=by have:=congrArg List.length h2;simpa using this
 refine⟨by show(BU c (Df c).length).bar=c.Kernel*16;rw[e1];omega,e4,hl1, ?_,hl2, ?_⟩
 ·intro p hp
  refine un_nP (x:=gd ps p) ?_
  rw[←MR (f:=nP) (by omega),h1,Vp hp];simp[psT,hp]
 intro k hk
 refine un_nC (x:=gd cs k) ?_
 rw[←MR (f:=nC) (by omega),h2,Vp hk];simp[VU,hk]
theorem Rz{α:Type}{p:α→Prop}{xs:List α}{n:Nat}{v:α}(h:∀ x∈xs,p x)(hv:n<xs.length→p v):∀ x∈xs.set n v,p x:=by
 by_cases hn:n<xs.length
 ·intro x hx
  rcases List.mem_or_eq_of_mem_set hx with hx | rfl
  ·exact h x hx
  exact hv hn
 rw[List.set_eq_of_length_le (by omega)];exact h
theorem QN{α:Type}[Inhabited α]{xs:List α}{n:Nat}(h:n<xs.length):gd xs n∈xs:=by rw[Gv h];exact List.getElem_mem h
theorem WY{c:Ai}(hf:Fine c):∀ (m:Nat),m≤(Df c).length→(∀ x∈(BU c m).ps,x.Tables.xs.length≤m)∧(∀ x∈(BU c m).cs,x.DJ.xs.length≤m)
 | 0,_=>by
  constructor
  ·intro x hx
   simp only[BU,List.take_zero,List.foldl_nil,F0,List.mem_map]at hx
   obtain⟨_,_,rfl⟩:=hx;exact Nat.le_refl _
  intro x hx
  simp only[BU,List.take_zero,List.foldl_nil,F0,List.mem_map]at hx
  obtain⟨_,_,rfl⟩:=hx;exact Nat.le_refl _
 | m+1,h=>by
  obtain⟨i1,i2⟩:=WY hf m (by omega)
  have j1:∀ x∈(BU c m).ps,x.Tables.xs.length≤m+1:=fun x hx=>Nat.le_succ_of_le (i1 x hx)
  have j2:∀ x∈(BU c m).cs,x.DJ.xs.length≤m+1:=fun x hx=>Nat.le_succ_of_le (i2 x hx)
  obtain⟨a1,a2, -⟩:=pc_in hf (show m<(Df c).length by omega)
  rw[JI (by omega)]
  generalize gd (Df c) m=y at *
  have hk:y.AB.Kind=2∨y.AB.Kind=3∨y.AB.Kind=4∨y.AB.Kind=5∨y.AB.Kind=6∨y.AB.Kind=7∨y.AB.Kind=8∨y.AB.Kind=9:=by omega
  rcases hk with h | h | h | h | h | h | h | h
  ·rw[st2 _ _ h];exact⟨j1,j2⟩
  ·rw[st3 _ _ h];exact⟨Rz j1 (fun hn=>show(gd (BU c m).ps y.AB.Index.toNat).Tables.xs.length≤m+1 from j1 _ (QN hn)),j2⟩
  ·rw[st4 _ _ h];exact⟨Rz j1 (fun hn=>show(gd (BU c m).ps y.AB.Index.toNat).Tables.xs.length≤m+1 from j1 _ (QN hn)),j2⟩
  ·rw[st5 _ _ h];exact⟨Rz j1 (fun hn=>show(gd (BU c m).ps y.AB.Index.toNat).Tables.xs.length≤m+1 from j1 _ (QN hn)),j2⟩
  ·rw[st6 _ _ h];exact⟨j1,Rz j2 (fun hn=>show(gd (BU c m).cs y.AB.Index.toNat).DJ.xs.length≤m+1 from j2 _ (QN hn))⟩
  ·rw[st7 _ _ h];exact⟨j1,Rz j2 (fun hn=>show(gd (BU c m).cs y.AB.Index.toNat).DJ.xs.length≤m+1 from j2 _ (QN hn))⟩
  ·rw[st8 _ _ h]
   refine⟨j1,Rz j2 (fun hn => ?_)⟩
   have:=i2 _ (QN hn)
   simp only[dstF,List.length_append,List.length_singleton];omega
  rw[st9 _ _ h]
  refine⟨Rz j1 (fun hn => ?_),j2⟩
  have:=i1 _ (QN hn)
  unfold Ut
  split
  ·exact Nat.le_succ_of_le this
  simp only[List.length_append,List.length_singleton];omega
theorem tabF_pos{p:Aq}{a:Int}(h:p.Root=0):Ut p a={ p with Root:=a / 16 }:=by unfold Ut;rw[if_pos h]
theorem tabF_neg{p:Aq}{a:Int}(h:¬ p.Root=0):Ut p a={ p with Tables:=⟨none,0,p.Tables.xs++[a / 16]⟩ }:=by unfold Ut;rw[if_neg h]
theorem rof_no(w:World)(c:Ai)(hc:Ai.ok Any w c)(hok:Ej c=false):Calls Tryd.prog 14 #[.agg (Ai.arr c)] w fun e w'=>e = .returned (.tuple #[.agg #[.int .i64 0,.slice none 0 0,.slice none 0 0,.int .i64 0],.int .i64 150])∧CE (fun _=>False) w w':=by
 obtain⟨z,hz⟩:∃ z,z=w.heap.size:=⟨_,rfl⟩
 refine Cb (args:=[.agg (Ai.arr c)]) 190 ⟨w,z,[(Ak w)]⟩ Tryd.func14 rfl (by kernel_rfl) (by kernel_rfl) (Em hz) ?_
 refine DI [0] [(0,.agg (Ai.arr c))] ?_
 refine q_c 7 1 [] [[o0,o0,o0],[(an 7 1)]] [Qb z,Qb z,Qb z,Qb z,Qb z,Qb z,Qb z] [(1,pt z),(2,pt (z+1)),(14,.agg (Ai.arr c))] ⟨w,z+2,[(Ak w),(bk z (Ai.arr c) 26),(bk (z+1) #[i6 0,.slice none 0 0,.slice none 0 0,i6 0] 60)]⟩ rfl ⟨rfl,rfl,rfl,rfl,rfl,rfl,rfl,Ae⟩ ?_
 refine AY 30 #[.agg (Ai.arr c)] (some 15) (.bool false) (fun w1 hw1=>rmay_no w1 c (hc.ext (hw1.ext rfl) (fun _ h=>h)) hok) (fun n2 (hn3:z+2≤n2) => ?_)
 refine Bq 8 0 [1] [[o0],[o0,(an 4 2),o0]] [Qb (z+1),Qb (z+1),Qb (z+1),Qb (z+1)] [(2,pt (z+1)),(3,i6 150)] rfl ⟨rfl,rfl,rfl,rfl,Ae⟩ ?_
 refine Az [.at 2,.at 2,.at 2,.at 2] [Qb (z+1),Qb (z+1),Qb (z+1),Qb (z+1)] (.tuple #[.agg #[i6 0,.slice none 0 0,.slice none 0 0,i6 0],i6 150]) ⟨rfl,rfl,rfl,rfl,Ae⟩ ?_
 intro w4 hw4
 exact⟨rfl,AA hw4⟩
section
variable (b7:Nat)(c:Ai)(mm b5:Nat)(b6 n14:Nat)(n2 n20 n24:Nat)(y49:BI)(n8 n16:Nat)(n10 n40 z:Nat)(csG:List A8)(y62:A8)(ax63:Option Addr)(cp64:Nat)(psG:List Aq)(y68:Aq)(ax70:Option Addr)(cp71 b42:Nat)(o43 cp38:Nat)(ax37:Option Addr)(w:World)(k:Nat)
abbrev F7:=bk b7 #[i6 ((BU c mm).bar),.slice (some ⟨b5,0,none⟩) c.Aa.xs.length c.Aa.xs.length,.slice (some ⟨b6,0,none⟩) c.Aj.xs.length c.Aj.xs.length,i6 0] 60
abbrev qo29_1:=bk n14 #[i6 0,.slice (some ⟨n14+1,0,none⟩) c.Aa.xs.length c.Aa.xs.length,.slice (some ⟨n2,0,none⟩) c.Aj.xs.length c.Aj.xs.length,i6 0] 60
abbrev qo29_2:=bk n2 #[i6 0,.slice (some ⟨n2+1,0,none⟩) c.Aa.xs.length c.Aa.xs.length,.slice (some ⟨n20,0,none⟩) c.Aj.xs.length c.Aj.xs.length,i6 0] 60
abbrev qo29_3:=bk n2 #[i6 0,.slice (some ⟨n24,0,none⟩) c.Aa.xs.length c.Aa.xs.length,.slice (some ⟨n2+1,0,none⟩) c.Aj.xs.length c.Aj.xs.length,i6 0] 60
abbrev Vb:=bk b7 #[i6 y49.At,.slice (some ⟨b5,0,none⟩) c.Aa.xs.length c.Aa.xs.length,.slice (some ⟨b6,0,none⟩) c.Aj.xs.length c.Aj.xs.length,i6 0] 60
abbrev qo29_5:=bk n8 #[i6 0,.slice (some ⟨n2,0,none⟩) c.Aa.xs.length c.Aa.xs.length,.slice (some ⟨n8+1,0,none⟩) c.Aj.xs.length c.Aj.xs.length,i6 0] 60
abbrev qo29_6:=bk n16 #[i6 0,.slice (some ⟨n14,0,none⟩) c.Aa.xs.length c.Aa.xs.length,.slice (some ⟨n2,0,none⟩) c.Aj.xs.length c.Aj.xs.length,i6 0] 60
abbrev qo29_7:=bk n10 #[i6 0,.slice (some ⟨n2,0,none⟩) c.Aa.xs.length c.Aa.xs.length,.slice (some ⟨n8,0,none⟩) c.Aj.xs.length c.Aj.xs.length,i6 0] 60
abbrev IR:=bk b7 #[i6 0,.slice (some ⟨b5,0,none⟩) c.Aa.xs.length c.Aa.xs.length,.slice (some ⟨b6,0,none⟩) c.Aj.xs.length c.Aj.xs.length,i6 0] 60
abbrev Wh:=bk (n40+1) #[i6 y49.AB.Index,i6 y49.AB.Port,i6 y49.At] 99
abbrev Dn:=bk (z+1) #[i6 0,.slice none 0 0,.slice none 0 0,i6 0] 60
abbrev Jt:=bk n40 (BI.arr y49) 97
abbrev Di:=bk z (Ai.arr c) 26
abbrev Vd:=Cm z 91 5 A8.cells (.slice (some ⟨b6,0,none⟩) c.Aj.xs.length c.Aj.xs.length) (csG.set (((BU c mm).ch).toNat) (⟨y62.Lock,y62.Pg,y62.Partition,y62.Port,(⟨ax63,cp64,(y62.DJ.xs++[(⟨y49.AB.Index,y49.AB.Port,y49.At⟩:BH)])⟩:Sl BH)⟩:A8))
abbrev Vg:=Cm z 70 5 Aq.cells (.slice (some ⟨b5,0,none⟩) c.Aa.xs.length c.Aa.xs.length) (psG.set ((y49.AB.Index).toNat) (⟨y68.Lock,y68.Oq,y68.State,y68.Root,(⟨ax70,cp71,(y68.Tables.xs++[y49.At / 16])⟩:Sl Int)⟩:Aq))
abbrev ZC:=Cm z 70 5 Aq.cells (.slice (some ⟨n14+1,0,none⟩) c.Aa.xs.length c.Aa.xs.length) (List.replicate c.Aa.xs.length (⟨0,0,0,0,(⟨none,0,[]⟩:Sl Int)⟩:Aq))
abbrev Z5:=Cm z 70 5 Aq.cells (.slice (some ⟨n2+1,0,none⟩) c.Aa.xs.length c.Aa.xs.length) (List.replicate c.Aa.xs.length (⟨0,0,0,0,(⟨none,0,[]⟩:Sl Int)⟩:Aq))
abbrev Zaj:=Cm z 91 5 A8.cells (.slice (some ⟨n8+1,0,none⟩) c.Aj.xs.length c.Aj.xs.length) (List.replicate c.Aj.xs.length (⟨0,0,0,0,(⟨none,0,[]⟩:Sl BH)⟩:A8))
abbrev Xy:=Cm z 70 5 Aq.cells (.slice (some ⟨n14,0,none⟩) c.Aa.xs.length c.Aa.xs.length) (List.replicate c.Aa.xs.length (⟨0,0,0,0,(⟨none,0,[]⟩:Sl Int)⟩:Aq))
abbrev ZH:=Cm z 91 5 A8.cells (.slice (some ⟨n2+1,0,none⟩) c.Aj.xs.length c.Aj.xs.length) (List.replicate c.Aj.xs.length (⟨0,0,0,0,(⟨none,0,[]⟩:Sl BH)⟩:A8))
abbrev Zad:=Cm z 70 5 Aq.cells (.slice (some ⟨n24,0,none⟩) c.Aa.xs.length c.Aa.xs.length) (List.replicate c.Aa.xs.length (⟨0,0,0,0,(⟨none,0,[]⟩:Sl Int)⟩:Aq))
abbrev Tq:=Cm z 70 5 Aq.cells (.slice (some ⟨n2,0,none⟩) c.Aa.xs.length c.Aa.xs.length) (List.replicate c.Aa.xs.length (⟨0,0,0,0,(⟨none,0,[]⟩:Sl Int)⟩:Aq))
abbrev Ih:=Cm z 70 5 Aq.cells (.slice (some ⟨b5,0,none⟩) c.Aa.xs.length c.Aa.xs.length) (List.replicate c.Aa.xs.length (⟨0,0,0,0,(⟨none,0,[]⟩:Sl Int)⟩:Aq))
abbrev Zaa:=Cm z 91 5 A8.cells (.slice (some ⟨n20,0,none⟩) c.Aj.xs.length c.Aj.xs.length) (List.replicate c.Aj.xs.length (⟨0,0,0,0,(⟨none,0,[]⟩:Sl BH)⟩:A8))
abbrev qo29_24:=Cm z 91 5 A8.cells (.slice (some ⟨n8,0,none⟩) c.Aj.xs.length c.Aj.xs.length) (List.replicate c.Aj.xs.length (⟨0,0,0,0,(⟨none,0,[]⟩:Sl BH)⟩:A8))
abbrev Q4:=Cm z 91 5 A8.cells (.slice (some ⟨n2,0,none⟩) c.Aj.xs.length c.Aj.xs.length) (List.replicate c.Aj.xs.length (⟨0,0,0,0,(⟨none,0,[]⟩:Sl BH)⟩:A8))
abbrev UX:=IP z 3 1 (fun x:Int=>[i6 x]) ((psG.map Aq.Tables).eraseIdx ((y49.AB.Index).toNat))
abbrev ES:=Cm z 70 5 Aq.cells (.slice (some ⟨b5,0,none⟩) c.Aa.xs.length c.Aa.xs.length) psG
abbrev EQ:=Cm z 91 5 A8.cells (.slice (some ⟨b6,0,none⟩) c.Aj.xs.length c.Aj.xs.length) csG
abbrev Vq:=IP z 99 3 BH.cells ((csG.map A8.DJ).eraseIdx (((BU c mm).ch).toNat))
abbrev Fe:=IP z 3 1 (fun x:Int=>[i6 x]) (psG.map Aq.Tables)
abbrev Fb:=IP z 99 3 BH.cells (csG.map A8.DJ)
abbrev qo29_32:Dk:=(26,.agg #[i6 0,.slice (some ⟨n14,0,none⟩) c.Aa.xs.length c.Aa.xs.length,.slice (some ⟨n2,0,none⟩) c.Aj.xs.length c.Aj.xs.length,i6 0])
abbrev qo29_33:Dk:=(26,.agg #[i6 0,.slice (some ⟨n2,0,none⟩) c.Aa.xs.length c.Aa.xs.length,.slice (some ⟨n8,0,none⟩) c.Aj.xs.length c.Aj.xs.length,i6 0])
abbrev Vw:Dk:=(168,.slice (some ⟨b5,0,none⟩) c.Aa.xs.length c.Aa.xs.length)
abbrev XE:Dk:=(21,.slice (some ⟨n2,0,none⟩) c.Aa.xs.length c.Aa.xs.length)
abbrev Vo:Dk:=(131,.slice (some ⟨b6,0,none⟩) c.Aj.xs.length c.Aj.xs.length)
abbrev X5:Dk:=(25,.slice (some ⟨n2,0,none⟩) c.Aj.xs.length c.Aj.xs.length)
abbrev DR:Dk:=(9,.slice (some ⟨b42,o43,none⟩) ((Df c).length) cp38)
abbrev Tu:=(20,Ac c.Aa.xs.length)
abbrev Tj:=(24,Ac c.Aj.xs.length)
abbrev GH:=(29,Ac c.Aj.xs.length)
abbrev Dq:=(58,i6 (((Df c).length:Nat):Int))
abbrev FW:Dk:=(9,.slice ax37 ((Df c).length) cp38)
abbrev Fg:=(59,i6 ((mm+1:Nat):Int))
abbrev BC:=(2,pt (z+1))
abbrev H5:=(12,pt n40)
abbrev D6:=(10,i6 (y49.At+y49.Size))
abbrev Oi:=(4,pt n2)
abbrev CJ:=(4,pt b7)
abbrev Ig:=[(Ak w),(Di c z),(Dn z),(Ih c b5 z),(Cm z 91 5 A8.cells (.slice (some ⟨b6,0,none⟩) c.Aj.xs.length c.Aj.xs.length) (Pm c k)),(IR b7 c b5 b6)]
abbrev Zu:=[(Ak w),(Di c z),(Dn z),(Tq c n2 z),(qo29_24 c n8 z),(qo29_7 c n2 n8 n10)]
end
theorem rof_yes(w:World)(c:Ai)(hc:Ai.ok Any w c)(hok:Ej c=true):Calls Tryd.prog 14 #[.agg (Ai.arr c)] w fun e w'=>∃ L:G9,e = .returned (.tuple #[.agg (G9.arr L),.int .i64 0])∧VG c L∧G9.ok (New w.heap.size) w' L∧WE w.heap.size w' L∧CE (fun _=>False) w w':=by
 obtain⟨z,hz⟩:∃ z,z=w.heap.size:=⟨_,rfl⟩
 refine Cb (args:=[.agg (Ai.arr c)]) 190 ⟨w,z,[(Ak w)]⟩ Tryd.func14 rfl (by kernel_rfl) (by kernel_rfl) (Em hz) ?_
 have hfine:=TM hok;have hkn:=hfine.kn;have hpn:=hfine.pn;have hcn:=hfine.cn
 refine DI [0] [(0,.agg (Ai.arr c))] ?_
 refine q_c 7 1 [] [[o0,o0,o0],[(an 7 1)]] [Qb z,Qb z,Qb z,Qb z,Qb z,Qb z,Qb z] [(1,pt z),(BC z),(14,.agg (Ai.arr c))] ⟨w,z+2,[(Ak w),(Di c z),(Dn z)]⟩ rfl ⟨rfl,rfl,rfl,rfl,rfl,rfl,rfl,Ae⟩ ?_
 refine AY 30 #[.agg (Ai.arr c)] (some 15) (.bool true) (fun w1 hw1=>rmay_yes w1 c (hc.ext (hw1.ext rfl) (fun _ h=>h)) hok) (fun n2 (hn3:z+2≤n2) => ?_)
 refine Bq 6 0 [0] [[o0]] [] [(1,pt z),(BC z),(16,.bool false)] rfl Ae ?_
 refine DX 10 [0,1,2] [(Ak w),(Di c z),(Dn z)] rfl rfl ?_
 refine CU [(0,o0),(1,(a1 1)),(2,o0),(4,o0),(5,(a1 1)),(6,o0)] [1,2,20,24] [Qb z,Qb z] [true,true,true,false,true,true,true,false,false,false,false] [(1,pt z),(BC z),(Tu c),(Tj c)] ⟨rfl,rfl,Ae⟩ ?_
 refine Qd (fun x:{p:Nat×Nat×Nat×Nat // n2≤p.1∧n2≤p.2.1∧n2≤p.2.2.1∧n2≤p.2.2.2}=>([(1,pt z),(BC z),(4,pt x.1.2.2.2)],⟨w,x.1.1,[(Ak w),(Di c z),(Dn z),(Cm z 70 5 Aq.cells (.slice (some ⟨x.1.2.1,0,none⟩) c.Aa.xs.length c.Aa.xs.length) (List.replicate c.Aa.xs.length (⟨0,0,0,0,(⟨none,0,[]⟩:Sl Int)⟩:Aq))),(Cm z 91 5 A8.cells (.slice (some ⟨x.1.2.2.1,0,none⟩) c.Aj.xs.length c.Aj.xs.length) (List.replicate c.Aj.xs.length (⟨0,0,0,0,(⟨none,0,[]⟩:Sl BH)⟩:A8))),(.blk x.1.2.2.2 (.cells #[i6 0,.slice (some ⟨x.1.2.1,0,none⟩) c.Aa.xs.length c.Aa.xs.length,.slice (some ⟨x.1.2.2.1,0,none⟩) c.Aj.xs.length c.Aj.xs.length,i6 0] 60 (0,0)) true)]⟩)) (fun hK => ?_) ?_
 ·refine Jk [3,7,9] ?_
  refine List.forall_mem_cons.2 ⟨?_,List.forall_mem_cons.2 ⟨?_,List.forall_mem_cons.2 ⟨?_,fun _ h=>absurd h List.not_mem_nil⟩⟩⟩
  ·refine OX z c.Aa.xs.length (⟨0,0,0,0,(⟨none,0,[]⟩:Sl Int)⟩:Aq) Aq.cells 70 5 56 (.agg #[i6 0,i6 0,i6 0,i6 0,.slice none 0 0]) (c.Aa.xs.length:Int) (c.Aa.xs.length:Int) (some 21) [0,1,2] rfl rfl (by omega) (show z≤n2 by omega) (.inr rfl) (fun n8 (hn9:n2+1≤n8) => ?_)
   refine Dw [1,2,24,21] [(1,pt z),(BC z),(Tj c),(XE c n2)] ?_
   refine Jk [7,9] ?_
   refine List.forall_mem_cons.2 ⟨?_,List.forall_mem_cons.2 ⟨?_,fun _ h=>absurd h List.not_mem_nil⟩⟩
   ·refine OX z c.Aj.xs.length (⟨0,0,0,0,(⟨none,0,[]⟩:Sl BH)⟩:A8) A8.cells 91 5 56 (.agg #[i6 0,i6 0,i6 0,i6 0,.slice none 0 0]) (c.Aj.xs.length:Int) (c.Aj.xs.length:Int) (some 25) [0,1,2] rfl rfl (by omega) (show z≤n8 by omega) (.inr rfl) (fun n10 (hn11:n8+1≤n10) => ?_)
    refine Dw [1,2,21,25] [(1,pt z),(BC z),(XE c n2),(25,.slice (some ⟨n8,0,none⟩) c.Aj.xs.length c.Aj.xs.length)] ?_
    refine CU [(8,o0)] [1,2,26] [] (D7 9 2) [(1,pt z),(BC z),(qo29_33 c n2 n8)] Ae ?_
    refine Bl 9 ?_
    refine BA o0 [1,2,26,4] [] [(1,pt z),(BC z),(qo29_33 c n2 n8),(4,pt n10)] ⟨w,n10+1,[(Ak w),(Di c z),(Dn z),(Tq c n2 z),(qo29_24 c n8 z),(bk n10 #[i6 0,.slice none 0 0,.slice none 0 0,i6 0] 60)]⟩ [0,1,2] Ae (.inr rfl) ?_
    refine Bl 10 ?_
    refine BA (an 4 5) [1,2,4] [Qb n10,Qb n10,Qb n10,Qb n10] [(1,pt z),(BC z),(4,pt n10)] ⟨w,n10+1,(Zu c n2 n8 n10 z w)⟩ [] ⟨rfl,rfl,rfl,rfl,Ae⟩ (.inl rfl) ?_
    refine DU 11 [0,1,2,3,4,5] (Zu c n2 n8 n10 z w) rfl rfl ?_
    refine CO ?_
    refine BK [1,2,4] [(1,pt z),(BC z),(4,pt n10)] ?_
    refine BX [0,1,2,3,4,5] (Zu c n2 n8 n10 z w) rfl rfl ?_
    exact hK ⟨(n10+1,n2,n8,n10),by first | omega | (dsimp only;omega)⟩
   refine BA o0 [1,2,24,21,4] [] [(1,pt z),(BC z),(Tj c),(XE c n2),(4,pt n8)] ⟨w,n8+1,[(Ak w),(Di c z),(Dn z),(Tq c n2 z),(bk n8 #[i6 0,.slice none 0 0,.slice none 0 0,i6 0] 60)]⟩ [0,1,2] Ae (.inr rfl) ?_
   refine Bl 7 ?_
   refine OX z c.Aj.xs.length (⟨0,0,0,0,(⟨none,0,[]⟩:Sl BH)⟩:A8) A8.cells 91 5 56 (.agg #[i6 0,i6 0,i6 0,i6 0,.slice none 0 0]) (c.Aj.xs.length:Int) (c.Aj.xs.length:Int) (some 25) [0,1,2] rfl rfl (by omega) (show z≤n8+1 by omega) (.inr rfl) (fun n12 (hn13:n8+1+1≤n12) => ?_)
   refine Dw [1,2,21,4,25] [(1,pt z),(BC z),(XE c n2),(4,pt n8),(25,.slice (some ⟨n8+1,0,none⟩) c.Aj.xs.length c.Aj.xs.length)] ?_
   refine CU [(8,o0)] [1,2,4,26] [] (D7 10 1) [(1,pt z),(BC z),(4,pt n8),(26,.agg #[i6 0,.slice (some ⟨n2,0,none⟩) c.Aa.xs.length c.Aa.xs.length,.slice (some ⟨n8+1,0,none⟩) c.Aj.xs.length c.Aj.xs.length,i6 0])] Ae ?_
   refine Bl 10 ?_
   refine BA (an 4 4) [1,2,4] [Qb n8,Qb n8,Qb n8,Qb n8] [(1,pt z),(BC z),(4,pt n8)] ⟨w,n12,[(Ak w),(Di c z),(Dn z),(Tq c n2 z),(qo29_5 c n2 n8),(Zaj c n8 z)]⟩ [] ⟨rfl,rfl,rfl,rfl,Ae⟩ (.inl rfl) ?_
   refine DU 11 [0,1,2,3,4,5] [(Ak w),(Di c z),(Dn z),(Tq c n2 z),(qo29_5 c n2 n8),(Zaj c n8 z)] rfl rfl ?_
   refine CO ?_
   refine BK [1,2,4] [(1,pt z),(BC z),(4,pt n8)] ?_
   refine BX [0,1,2,3,5,4] [(Ak w),(Di c z),(Dn z),(Tq c n2 z),(Zaj c n8 z),(qo29_5 c n2 n8)] rfl rfl ?_
   exact hK ⟨(n12,n2,n8+1,n8),by first | omega | (dsimp only;omega)⟩
  ·refine OX z c.Aj.xs.length (⟨0,0,0,0,(⟨none,0,[]⟩:Sl BH)⟩:A8) A8.cells 91 5 56 (.agg #[i6 0,i6 0,i6 0,i6 0,.slice none 0 0]) (c.Aj.xs.length:Int) (c.Aj.xs.length:Int) (some 25) [0,1,2] rfl rfl (by omega) (show z≤n2 by omega) (.inr rfl) (fun n14 (hn15:n2+1≤n14) => ?_)
   refine Dw [1,2,20,25] [(1,pt z),(BC z),(Tu c),(X5 c n2)] ?_
   refine Jk [3,9] ?_
   refine List.forall_mem_cons.2 ⟨?_,List.forall_mem_cons.2 ⟨?_,fun _ h=>absurd h List.not_mem_nil⟩⟩
   ·refine OX z c.Aa.xs.length (⟨0,0,0,0,(⟨none,0,[]⟩:Sl Int)⟩:Aq) Aq.cells 70 5 56 (.agg #[i6 0,i6 0,i6 0,i6 0,.slice none 0 0]) (c.Aa.xs.length:Int) (c.Aa.xs.length:Int) (some 21) [0,1,2] rfl rfl (by omega) (show z≤n14 by omega) (.inr rfl) (fun n16 (hn17:n14+1≤n16) => ?_)
    refine Dw [1,2,25,21] [(1,pt z),(BC z),(X5 c n2),(21,.slice (some ⟨n14,0,none⟩) c.Aa.xs.length c.Aa.xs.length)] ?_
    refine CU [(8,o0)] [1,2,26] [] (D7 9 2) [(1,pt z),(BC z),(qo29_32 c n14 n2)] Ae ?_
    refine Bl 9 ?_
    refine BA o0 [1,2,26,4] [] [(1,pt z),(BC z),(qo29_32 c n14 n2),(4,pt n16)] ⟨w,n16+1,[(Ak w),(Di c z),(Dn z),(Q4 c n2 z),(Xy c n14 z),(bk n16 #[i6 0,.slice none 0 0,.slice none 0 0,i6 0] 60)]⟩ [0,1,2] Ae (.inr rfl) ?_
    refine Bl 10 ?_
    refine BA (an 4 5) [1,2,4] [Qb n16,Qb n16,Qb n16,Qb n16] [(1,pt z),(BC z),(4,pt n16)] ⟨w,n16+1,[(Ak w),(Di c z),(Dn z),(Q4 c n2 z),(Xy c n14 z),(qo29_6 c n14 n2 n16)]⟩ [] ⟨rfl,rfl,rfl,rfl,Ae⟩ (.inl rfl) ?_
    refine DU 11 [0,1,2,3,4,5] [(Ak w),(Di c z),(Dn z),(Q4 c n2 z),(Xy c n14 z),(qo29_6 c n14 n2 n16)] rfl rfl ?_
    refine CO ?_
    refine BK [1,2,4] [(1,pt z),(BC z),(4,pt n16)] ?_
    refine BX [0,1,2,4,3,5] [(Ak w),(Di c z),(Dn z),(Xy c n14 z),(Q4 c n2 z),(qo29_6 c n14 n2 n16)] rfl rfl ?_
    exact hK ⟨(n16+1,n14,n2,n16),by first | omega | (dsimp only;omega)⟩
   refine BA o0 [1,2,20,25,4] [] [(1,pt z),(BC z),(Tu c),(X5 c n2),(4,pt n14)] ⟨w,n14+1,[(Ak w),(Di c z),(Dn z),(Q4 c n2 z),(bk n14 #[i6 0,.slice none 0 0,.slice none 0 0,i6 0] 60)]⟩ [0,1,2] Ae (.inr rfl) ?_
   refine Bl 3 ?_
   refine OX z c.Aa.xs.length (⟨0,0,0,0,(⟨none,0,[]⟩:Sl Int)⟩:Aq) Aq.cells 70 5 56 (.agg #[i6 0,i6 0,i6 0,i6 0,.slice none 0 0]) (c.Aa.xs.length:Int) (c.Aa.xs.length:Int) (some 21) [0,1,2] rfl rfl (by omega) (show z≤n14+1 by omega) (.inr rfl) (fun n18 (hn19:n14+1+1≤n18) => ?_)
   refine Dw [1,2,25,4,21] [(1,pt z),(BC z),(X5 c n2),(4,pt n14),(21,.slice (some ⟨n14+1,0,none⟩) c.Aa.xs.length c.Aa.xs.length)] ?_
   refine CU [(8,o0)] [1,2,4,26] [] (D7 10 1) [(1,pt z),(BC z),(4,pt n14),(26,.agg #[i6 0,.slice (some ⟨n14+1,0,none⟩) c.Aa.xs.length c.Aa.xs.length,.slice (some ⟨n2,0,none⟩) c.Aj.xs.length c.Aj.xs.length,i6 0])] Ae ?_
   refine Bl 10 ?_
   refine BA (an 4 4) [1,2,4] [Qb n14,Qb n14,Qb n14,Qb n14] [(1,pt z),(BC z),(4,pt n14)] ⟨w,n18,[(Ak w),(Di c z),(Dn z),(Q4 c n2 z),(qo29_1 c n14 n2),(ZC c n14 z)]⟩ [] ⟨rfl,rfl,rfl,rfl,Ae⟩ (.inl rfl) ?_
   refine DU 11 [0,1,2,3,4,5] [(Ak w),(Di c z),(Dn z),(Q4 c n2 z),(qo29_1 c n14 n2),(ZC c n14 z)] rfl rfl ?_
   refine CO ?_
   refine BK [1,2,4] [(1,pt z),(BC z),(4,pt n14)] ?_
   refine BX [0,1,2,5,3,4] [(Ak w),(Di c z),(Dn z),(ZC c n14 z),(Q4 c n2 z),(qo29_1 c n14 n2)] rfl rfl ?_
   exact hK ⟨(n18,n14+1,n2,n14),by first | omega | (dsimp only;omega)⟩
  refine BA o0 [1,2,20,24,4] [] [(1,pt z),(BC z),(Tu c),(Tj c),(Oi n2)] ⟨w,n2+1,[(Ak w),(Di c z),(Dn z),(bk n2 #[i6 0,.slice none 0 0,.slice none 0 0,i6 0] 60)]⟩ [0,1,2] Ae (.inr rfl) ?_
  refine Jk [3,7] ?_
  refine List.forall_mem_cons.2 ⟨?_,List.forall_mem_cons.2 ⟨?_,fun _ h=>absurd h List.not_mem_nil⟩⟩
  ·refine OX z c.Aa.xs.length (⟨0,0,0,0,(⟨none,0,[]⟩:Sl Int)⟩:Aq) Aq.cells 70 5 56 (.agg #[i6 0,i6 0,i6 0,i6 0,.slice none 0 0]) (c.Aa.xs.length:Int) (c.Aa.xs.length:Int) (some 21) [0,1,2] rfl rfl (by omega) (show z≤n2+1 by omega) (.inr rfl) (fun n20 (hn21:n2+1+1≤n20) => ?_)
   refine Dw [1,2,24,4,21] [(1,pt z),(BC z),(Tj c),(Oi n2),(21,.slice (some ⟨n2+1,0,none⟩) c.Aa.xs.length c.Aa.xs.length)] ?_
   refine Bl 7 ?_
   refine OX z c.Aj.xs.length (⟨0,0,0,0,(⟨none,0,[]⟩:Sl BH)⟩:A8) A8.cells 91 5 56 (.agg #[i6 0,i6 0,i6 0,i6 0,.slice none 0 0]) (c.Aj.xs.length:Int) (c.Aj.xs.length:Int) (some 25) [0,1,2] rfl rfl (by omega) (show z≤n20 by omega) (.inr rfl) (fun n22 (hn23:n20+1≤n22) => ?_)
   refine Dw [1,2,4,21,25] [(1,pt z),(BC z),(Oi n2),(21,.slice (some ⟨n2+1,0,none⟩) c.Aa.xs.length c.Aa.xs.length),(25,.slice (some ⟨n20,0,none⟩) c.Aj.xs.length c.Aj.xs.length)] ?_
   refine CU [(8,o0)] [1,2,4,26] [] (D7 10 1) [(1,pt z),(BC z),(Oi n2),(26,.agg #[i6 0,.slice (some ⟨n2+1,0,none⟩) c.Aa.xs.length c.Aa.xs.length,.slice (some ⟨n20,0,none⟩) c.Aj.xs.length c.Aj.xs.length,i6 0])] Ae ?_
   refine Bl 10 ?_
   refine BA (an 4 3) [1,2,4] [Qb n2,Qb n2,Qb n2,Qb n2] [(1,pt z),(BC z),(Oi n2)] ⟨w,n22,[(Ak w),(Di c z),(Dn z),(qo29_2 c n2 n20),(Z5 c n2 z),(Zaa c n20 z)]⟩ [] ⟨rfl,rfl,rfl,rfl,Ae⟩ (.inl rfl) ?_
   refine DU 11 [0,1,2,3,4,5] [(Ak w),(Di c z),(Dn z),(qo29_2 c n2 n20),(Z5 c n2 z),(Zaa c n20 z)] rfl rfl ?_
   refine CO ?_
   refine BK [1,2,4] [(1,pt z),(BC z),(Oi n2)] ?_
   refine BX [0,1,2,4,5,3] [(Ak w),(Di c z),(Dn z),(Z5 c n2 z),(Zaa c n20 z),(qo29_2 c n2 n20)] rfl rfl ?_
   exact hK ⟨(n22,n2+1,n20,n2),by first | omega | (dsimp only;omega)⟩
  refine OX z c.Aj.xs.length (⟨0,0,0,0,(⟨none,0,[]⟩:Sl BH)⟩:A8) A8.cells 91 5 56 (.agg #[i6 0,i6 0,i6 0,i6 0,.slice none 0 0]) (c.Aj.xs.length:Int) (c.Aj.xs.length:Int) (some 25) [0,1,2] rfl rfl (by omega) (show z≤n2+1 by omega) (.inr rfl) (fun n24 (hn25:n2+1+1≤n24) => ?_)
  refine Dw [1,2,20,4,25] [(1,pt z),(BC z),(Tu c),(Oi n2),(25,.slice (some ⟨n2+1,0,none⟩) c.Aj.xs.length c.Aj.xs.length)] ?_
  refine Bl 3 ?_
  refine OX z c.Aa.xs.length (⟨0,0,0,0,(⟨none,0,[]⟩:Sl Int)⟩:Aq) Aq.cells 70 5 56 (.agg #[i6 0,i6 0,i6 0,i6 0,.slice none 0 0]) (c.Aa.xs.length:Int) (c.Aa.xs.length:Int) (some 21) [0,1,2] rfl rfl (by omega) (show z≤n24 by omega) (.inr rfl) (fun n26 (hn27:n24+1≤n26) => ?_)
  refine Dw [1,2,4,25,21] [(1,pt z),(BC z),(Oi n2),(25,.slice (some ⟨n2+1,0,none⟩) c.Aj.xs.length c.Aj.xs.length),(21,.slice (some ⟨n24,0,none⟩) c.Aa.xs.length c.Aa.xs.length)] ?_
  refine CU [(8,o0)] [1,2,4,26] [] (D7 10 1) [(1,pt z),(BC z),(Oi n2),(26,.agg #[i6 0,.slice (some ⟨n24,0,none⟩) c.Aa.xs.length c.Aa.xs.length,.slice (some ⟨n2+1,0,none⟩) c.Aj.xs.length c.Aj.xs.length,i6 0])] Ae ?_
  refine Bl 10 ?_
  refine BA (an 4 3) [1,2,4] [Qb n2,Qb n2,Qb n2,Qb n2] [(1,pt z),(BC z),(Oi n2)] ⟨w,n26,[(Ak w),(Di c z),(Dn z),(qo29_3 c n2 n24),(ZH c n2 z),(Zad c n24 z)]⟩ [] ⟨rfl,rfl,rfl,rfl,Ae⟩ (.inl rfl) ?_
  refine DU 11 [0,1,2,3,4,5] [(Ak w),(Di c z),(Dn z),(qo29_3 c n2 n24),(ZH c n2 z),(Zad c n24 z)] rfl rfl ?_
  refine CO ?_
  refine BK [1,2,4] [(1,pt z),(BC z),(Oi n2)] ?_
  refine BX [0,1,2,5,4,3] [(Ak w),(Di c z),(Dn z),(Zad c n24 z),(ZH c n2 z),(qo29_3 c n2 n24)] rfl rfl ?_
  exact hK ⟨(n26,n24,n2+1,n2),by first | omega | (dsimp only;omega)⟩
 rintro⟨⟨n4,b5,b6,b7⟩,hJ28⟩
 simp only at hJ28
 show E _ _ [(1,pt z),(BC z),(CJ b7)] _ ⟨w,n4,[(Ak w),(Di c z),(Dn z),(Ih c b5 z),(Cm z 91 5 A8.cells (.slice (some ⟨b6,0,none⟩) c.Aj.xs.length c.Aj.xs.length) (List.replicate c.Aj.xs.length (⟨0,0,0,0,(⟨none,0,[]⟩:Sl BH)⟩:A8))),(IR b7 c b5 b6)]⟩ _ _ _
 refine LX 7 0 [] [[o0,(a1 1),o0,o0]] [Qb z] [(1,pt z),(BC z),(CJ b7),(GH c),(30,i6 0)] rfl ⟨rfl,Ae⟩ ?_
 refine Du (fun m a w'=>∃ (n30:Nat) (k:Nat),m=c.Aj.xs.length - k∧n4≤n30∧(k≤c.Aj.xs.length)∧St 190 [(1,pt z),(BC z),(CJ b7),(GH c),(30,Ac k)] [] ⟨w,n30,(Ig b7 c b5 b6 z w k)⟩ a w') (c.Aj.xs.length - 0) ?_ ?_
 ·intro a w' hs;exact⟨n4,0,rfl,Nat.le_refl _,Nat.zero_le _,by(try dsimp only[IR,Dn,Di,Ih,Tu,Tj,GH,BC,CJ,Ig]at hs ⊢);rw[csUp_zero];exact hs⟩
 rintro m a w' ⟨n30,k,rfl,hn29,hkk,hs⟩
 refine(?_:G Tryd.prog 190 [(1,pt z),(BC z),(CJ b7),(GH c),(30,Ac k)] [] ⟨w,n30,(Ig b7 c b5 b6 z w k)⟩ _ _ _) a w' hs
 clear hs a w'
 have hul:=csUp_len (c:=c) (k:=k)
 refine CB ?_
 by_cases h31:(k:Int)<(c.Aj.xs.length:Int)
 ·refine Au 15 2 [1] [[oT],[o0,o0],[(an 7 1),o0]] [BT ((k:Int)<(c.Aj.xs.length:Int)),Qb z,Qb z,Qb z,Qb z,Qb z,Qb z,Qb z] [(1,pt z),(BC z),(CJ b7),(GH c),(30,Ac k),(5,Ac k),(34,.agg (Ai.arr c)),(35,Ac k)] rfl ⟨bt,rfl,rfl,rfl,rfl,rfl,rfl,rfl,Ae⟩ ?_
  refine AY 31 #[.agg (Ai.arr c),Ac k] (some 36) (.tuple #[i6 ((gd (Cj c (k:Int) true) 0).partition),i6 ((gd (Cj c (k:Int) true) 0).port)]) (fun w32 hw32=>source_calls w32 c (k:Int) (hc.ext (hw32.ext rfl) (fun _ h=>h))) (fun n33 (hn34:n30≤n33) => ?_)
  refine Bq 4 6 [] [[o0,o0,o0,o0,o0],[o0,(a1 5),o0,o0,(oi k),o0]] [Qb b7,CW k,k<c.Aj.xs.length,Ce] [(1,pt z),(BC z),(CJ b7),(GH c),(30,Ac k),(5,Ac k),(7,i6 ((gd (Cj c (k:Int) true) 0).port)),(42,i6 ((gd (Cj c (k:Int) true) 0).partition)),(44,.pointer (some ⟨b6,0+GZ 5 k+2,none⟩))] rfl ⟨rfl,rfl,(by omega),rfl,Ae⟩ ?_
  refine Ou 4 k 2 (Pm c k) (⟨0,0,(gd (Cj c (k:Int) true) 0).partition,0,(⟨none,0,[]⟩:Sl BH)⟩:A8) A8.cells z 91 5 b6 c.Aj.xs.length c.Aj.xs.length (i6 ((gd (Cj c (k:Int) true) 0).partition)) none (by first | omega | (rw[List.length_set];omega)) (by rw[csUp_at (by omega)];rfl) ?_
  refine Bq 3 6 [] [[],[o0,(a1 5),o0,o0,(oi k),o0]] [Qb b7,CW k,k<c.Aj.xs.length,Ce] [(1,pt z),(BC z),(CJ b7),(GH c),(30,Ac k),(48,i6 ((gd (Cj c (k:Int) true) 0).port)),(50,.pointer (some ⟨b6,0+GZ 5 k+3,none⟩))] rfl ⟨rfl,rfl,(by omega),rfl,Ae⟩ ?_
  refine Ou 4 k 3 ((Pm c k).set k (⟨0,0,(gd (Cj c (k:Int) true) 0).partition,0,(⟨none,0,[]⟩:Sl BH)⟩:A8)) (⟨0,0,(gd (Cj c (k:Int) true) 0).partition,(gd (Cj c (k:Int) true) 0).port,(⟨none,0,[]⟩:Sl BH)⟩:A8) A8.cells z 91 5 b6 c.Aj.xs.length c.Aj.xs.length (i6 ((gd (Cj c (k:Int) true) 0).port)) none (by first | omega | (rw[List.length_set];omega)) (by rw[NM (by first | omega | (rw[List.length_set];omega))];rfl) ?_
  refine Bq 5 0 [] [[],[(ov (i6 ((k+1:Nat):Int))),o0]] [Wr ((k:Int)+1) (((k+1:Nat):Int))] [(1,pt z),(BC z),(CJ b7),(GH c),(30,i6 ((k+1:Nat):Int))] rfl ⟨BQ,Ae⟩ ?_
  refine BO (fun a w' hs=>⟨c.Aj.xs.length - (k+1),by omega,n33,(k+1),rfl,by omega,by omega,by(try dsimp only[IR,Dn,Di,Ih,GH,BC,CJ,Ig]at hs ⊢);rw[←csUp_succ];simp only[List.set_set]at hs;exact hs⟩)
 refine Au 16 1 [0] [[oF],[o0],[(an 7 1)]] [BF ((k:Int)<(c.Aj.xs.length:Int)),Qb z,Qb z,Qb z,Qb z,Qb z,Qb z,Qb z] [(1,pt z),(BC z),(CJ b7),(8,i6 0),(52,.agg (Ai.arr c))] rfl ⟨bf,rfl,rfl,rfl,rfl,rfl,rfl,rfl,Ae⟩ ?_
 refine l_call [] [] 32 #[.agg (Ai.arr c)] (some 53) Ae ?_
 intro w35 hw35
 refine(rpieces_calls w35 c (hc.ext (hw35.ext rfl) (fun _ h=>h)) hok).mono ?_
 rintro e w36 ⟨ax37,cp38,rfl,hSw36,hkw36⟩
 have hnw36:n30≤w36.heap.size:=I5 hw35 hkw36
 rw[hw35.size]at hSw36
 refine⟨_,_,rfl,hw35.Ud hkw36, ?_⟩
 refine Bq 12 0 [] [[o0],[o0,(a1 1),(ov (i6 (16*c.Kernel))),o0],[o0,o0,o0]] [Qb z,Wr ((16:Int)*c.Kernel) (16*c.Kernel)] [(BC z),(CJ b7),(8,i6 0),(FW c cp38 ax37),(10,i6 (16*c.Kernel)),(Dq c),(59,i6 0)] rfl ⟨rfl,BQ,Ae⟩ ?_
 have hkc:k=c.Aj.xs.length:=by omega
 refine g_famNil z 99 3 BH.cells c.Aj.xs.length ?_
 refine g_famNil z 3 1 (fun x:Int=>[i6 x]) c.Aa.xs.length ?_
 refine Du (fun m a w'=>∃ (n40:Nat) (mm:Nat) (psG:List Aq) (csG:List A8),m=(Df c).length - mm∧w36.heap.size≤n40∧(mm≤(Df c).length)∧(psG.length=c.Aa.xs.length)∧(csG.length=c.Aj.xs.length)∧(psG.map nP=(BU c mm).ps)∧(csG.map nC=(BU c mm).cs)∧St 190 [(BC z),(CJ b7),(8,i6 ((BU c mm).ch)),(FW c cp38 ax37),(10,i6 ((BU c mm).fin)),(Dq c),(59,Ac mm)] [] ⟨w,n40,[(Ak w),(Di c z),(Dn z),(ES c b5 z psG),(EQ c b6 z csG),(F7 b7 c mm b5 b6),(mid n30 w36),(Fb z csG),(Fe z psG)]⟩ a w') ((Df c).length - 0) ?_ ?_
 ·intro a w' hs;exact⟨w36.heap.size,0,(List.replicate c.Aa.xs.length (⟨0,0,0,0,(⟨none,0,[]⟩:Sl Int)⟩:Aq)),(Pm c k),rfl,Nat.le_refl _,Nat.zero_le _,List.length_replicate,csUp_len,(by rw[List.map_replicate];apply List.ext_getElem (by simp[BU,F0]);intro i h1 h2;simp[BU,F0,nP]),(by rw[hkc,csUp_all];show List.map nC ((List.range _).map (SY c))=(List.range _).map (SY c);rw[List.map_map];rfl),by(try dsimp only[F7,IR,Dn,Di,Ih,ES,EQ,Fe,Fb,GH,Dq,FW,BC,CJ,Ig]at hs ⊢);rw[csUp_nil,List.map_replicate];exact hs⟩
 rintro m a w' ⟨n40,mm,psG,csG,rfl,hn39,hkmm,hlp,hlc,hps,hcs,hs⟩
 refine(?_:G Tryd.prog 190 [(BC z),(CJ b7),(8,i6 ((BU c mm).ch)),(FW c cp38 ax37),(10,i6 ((BU c mm).fin)),(Dq c),(59,Ac mm)] [] ⟨w,n40,[(Ak w),(Di c z),(Dn z),(ES c b5 z psG),(EQ c b6 z csG),(F7 b7 c mm b5 b6),(mid n30 w36),(Fb z csG),(Fe z psG)]⟩ _ _ _) a w' hs
 clear hs a w'
 have hpln:=pieces_len hfine
 have hch:=foldUp_ch hfine mm (by omega)
 have hfin:mm<(Df c).length∨((BU c mm).fin+16 - 1) / 16=Ec c c.Aa.xs.length:=if e:mm<(Df c).length then .inl e else .inr (by rw[show mm=(Df c).length by omega];exact(YY hfine).2.2.2)
 have htb:=QO hfine c.Aa.xs.length (Nat.le_refl _)
 have htp:=ZI hfine c.Aa.xs.length
 refine CB ?_
 by_cases h41:(mm:Int)<(((Df c).length:Nat):Int)
 ·refine Au 14 0 [1] [[oT],[o0,o0]] [BT ((mm:Int)<(((Df c).length:Nat):Int))] [(BC z),(CJ b7),(8,i6 ((BU c mm).ch)),(FW c cp38 ax37),(Dq c),(59,Ac mm),(11,Ac mm)] rfl ⟨bt,Ae⟩ ?_
  obtain⟨b42,o43,ha44,hF46,hc45⟩:=((⟨hSw36,pc_ink hfine⟩:La BI.cells 5 BI.ok _ _ _)).1.all (show 0<(Df c).length by omega)
  replace ha44:ax37=some ⟨b42,o43,none⟩:=ha44
  refine LH [(BC z),(CJ b7),(8,i6 ((BU c mm).ch)),(DR c b42 o43 cp38),(Dq c),(59,Ac mm),(11,Ac mm)] (by(try dsimp only[F7,IR,Dn,Di,Ih,ES,EQ,Fe,Fb,DR,GH,Dq,FW,BC,CJ,Ig]);simp only[ha44]) ?_
  have hc47:=hc45 mm (show mm<(Df c).length by omega)
  have he48:=((⟨hSw36,pc_ink hfine⟩:La BI.cells 5 BI.ok _ _ _)).2 mm (show mm<(Df c).length by omega)
  obtain⟨y49,hy49⟩:∃ y_,y_=gd (⟨ax37,cp38,Df c⟩:Sl BI).xs mm:=⟨_,rfl⟩
  rw[←hy49]at he48 hc47
  have hPc:=pc_in hfine (show mm<(Df c).length by omega);rw[←hy49]at hPc;unfold WB at hPc
  refine q_c 17 0 [] [[o0,o0,(oi mm),(oa [.via 6 (i6 y49.At),.via 6 (i6 y49.Size),.via 6 (i6 y49.AB.Kind),.via 6 (i6 y49.AB.Index),.via 6 (i6 y49.AB.Port)]),o0,(an 5 9)],[o0,(a1 9),o0,(a1 9),(ov (i6 (y49.At+y49.Size))),o0],[o0,o0,(a1 9),o0],[o0,o0,(a1 9)]] [CW mm,mm<(Df c).length,Ce,∀ w',Ch.holds (mid n30 w36) w'→w'.cell? ⟨b42,o43+mm*5,none⟩=some (i6 y49.At),∀ w',Ch.holds (mid n30 w36) w'→w'.cell? ⟨b42,o43+mm*5+1,none⟩=some (i6 y49.Size),∀ w',Ch.holds (mid n30 w36) w'→w'.cell? ⟨b42,o43+mm*5+2,none⟩=some (i6 y49.AB.Kind),∀ w',Ch.holds (mid n30 w36) w'→w'.cell? ⟨b42,o43+mm*5+3,none⟩=some (i6 y49.AB.Index),∀ w',Ch.holds (mid n30 w36) w'→w'.cell? ⟨b42,o43+mm*5+4,none⟩=some (i6 y49.AB.Port),Qb n40,Qb n40,Qb n40,Qb n40,Qb n40,Qb n40,Qb n40,Wr ((y49.At:Int)+y49.Size) (y49.At+y49.Size),Qb n40,Qb n40] [(BC z),(CJ b7),(8,i6 ((BU c mm).ch)),(DR c b42 o43 cp38),(Dq c),(59,Ac mm),(H5 n40),(D6 y49),(13,i6 y49.AB.Index),(76,i6 y49.AB.Kind)] ⟨w,n40+1,[(Ak w),(Di c z),(Dn z),(ES c b5 z psG),(EQ c b6 z csG),(F7 b7 c mm b5 b6),(mid n30 w36),(Fb z csG),(Fe z psG),(Jt y49 n40)]⟩ rfl ⟨rfl,(by omega),rfl,MF hF46 (hc47 0 _ rfl),MF hF46 (hc47 1 _ rfl),MF hF46 (hc47 2 _ rfl),MF hF46 (hc47 3 _ rfl),MF hF46 (hc47 4 _ rfl),rfl,rfl,rfl,rfl,rfl,rfl,rfl,BQ,rfl,rfl,Ae⟩ ?_
  by_cases h50:(y49.AB.Kind:Int)=2
  ·refine q_c 11 0 [1] [[oT,o0],[o0,(a1 9),o0,(a1 5)],[(ov (i6 ((mm+1:Nat):Int))),o0]] [ET y49.AB.Kind 2,Qb n40,Qb b7,Wr ((mm:Int)+1) (((mm+1:Nat):Int))] [(BC z),(CJ b7),(8,i6 ((BU c mm).ch)),(DR c b42 o43 cp38),(Dq c),(Fg mm),(D6 y49)] ⟨w,n40+1,[(Ak w),(Di c z),(Dn z),(ES c b5 z psG),(EQ c b6 z csG),(Vb b7 c b5 b6 y49),(mid n30 w36),(Fb z csG),(Fe z psG),(Jt y49 n40)]⟩ rfl ⟨et,rfl,rfl,BQ,Ae⟩ ?_
   refine BX [0,1,2,3,4,5,6,7,8] [(Ak w),(Di c z),(Dn z),(ES c b5 z psG),(EQ c b6 z csG),(Vb b7 c b5 b6 y49),(mid n30 w36),(Fb z csG),(Fe z psG)] rfl rfl ?_
   have hT:=JI (c:=c) (m:=mm) (by omega)
   rw[←hy49,st2 _ _ (by omega)]at hT
   refine GR [2,4,8,9,10,58,59] [(BC z),(CJ b7),(8,i6 ((BU c mm).ch)),(FW c cp38 ax37),(D6 y49),(Dq c),(Fg mm)] (by(try dsimp only[F7,Vb,IR,Dn,Jt,Di,Ih,ES,EQ,Fe,Fb,DR,GH,Dq,FW,Fg,BC,H5,D6,CJ,Ig]);simp only[ha44];rfl) ?_
   refine BO (fun a w' hs=>⟨(Df c).length - (mm+1),by omega,(n40+1),(mm+1),psG,csG,rfl,by omega,by omega,hlp,hlc,by rw[hT];exact hps,by rw[hT];exact hcs,by(try dsimp only[F7,Vb,IR,Dn,Jt,Di,Ih,ES,EQ,Fe,Fb,DR,GH,Dq,FW,Fg,BC,H5,D6,CJ,Ig]at hs ⊢);rw[hT];exact hs⟩)
  refine Au 5 0 [0] [[oF,o0]] [EF y49.AB.Kind 2] [(BC z),(CJ b7),(8,i6 ((BU c mm).ch)),(DR c b42 o43 cp38),(Dq c),(59,Ac mm),(H5 n40),(D6 y49),(13,i6 y49.AB.Index),(76,i6 y49.AB.Kind),(77,.bool false)] rfl ⟨ef,Ae⟩ ?_
  by_cases h51:(y49.AB.Kind:Int)=3
  ·refine Au 5 7 [1] [[oT,o0],[o0,(a1 5),o0,o0,(a1 9),(oi ((y49.AB.Index).toNat)),o0]] [ET y49.AB.Kind 3,Qb b7,Qb n40,(y49.AB.Index:Int)=(((y49.AB.Index).toNat:Nat):Int),(y49.AB.Index).toNat<c.Aa.xs.length,Ce] [(BC z),(CJ b7),(8,i6 ((BU c mm).ch)),(DR c b42 o43 cp38),(Dq c),(59,Ac mm),(D6 y49),(88,i6 y49.At),(90,.pointer (some ⟨b5,0+GZ 5 ((y49.AB.Index).toNat),none⟩))] rfl ⟨et,rfl,rfl,(by omega),(by omega),rfl,Ae⟩ ?_
   obtain⟨y52,hy52⟩:∃ y,y=gd psG ((y49.AB.Index).toNat):=⟨_,rfl⟩
   refine Ou 3 ((y49.AB.Index).toNat) 0 psG (⟨y49.At,y52.Oq,y52.State,y52.Root,(⟨y52.Tables.a,y52.Tables.cap,y52.Tables.xs⟩:Sl Int)⟩:Aq) Aq.cells z 70 5 b5 c.Aa.xs.length c.Aa.xs.length (i6 y49.At) none (by first | omega | (rw[List.length_set];omega)) (by rw[←hy52];rfl) ?_
   refine Bq 6 0 [] [[],[(ov (i6 ((mm+1:Nat):Int))),o0]] [Wr ((mm:Int)+1) (((mm+1:Nat):Int))] [(BC z),(CJ b7),(8,i6 ((BU c mm).ch)),(DR c b42 o43 cp38),(Dq c),(Fg mm),(D6 y49)] rfl ⟨BQ,Ae⟩ ?_
   refine BX [0,1,2,3,4,5,6,7,8] [(Ak w),(Di c z),(Dn z),(Cm z 70 5 Aq.cells (.slice (some ⟨b5,0,none⟩) c.Aa.xs.length c.Aa.xs.length) (psG.set ((y49.AB.Index).toNat) (⟨y49.At,y52.Oq,y52.State,y52.Root,(⟨y52.Tables.a,y52.Tables.cap,y52.Tables.xs⟩:Sl Int)⟩:Aq))),(EQ c b6 z csG),(F7 b7 c mm b5 b6),(mid n30 w36),(Fb z csG),(Fe z psG)] rfl rfl ?_
   have hT:=JI (c:=c) (m:=mm) (by omega)
   rw[←hy49,st3 _ _ (by omega)]at hT
   refine GR [2,4,8,9,10,58,59] [(BC z),(CJ b7),(8,i6 ((BU c mm).ch)),(FW c cp38 ax37),(D6 y49),(Dq c),(Fg mm)] (by(try dsimp only[F7,Vb,IR,Dn,Jt,Di,Ih,ES,EQ,Fe,Fb,DR,GH,Dq,FW,Fg,BC,H5,D6,CJ,Ig]);simp only[ha44];rfl) ?_
   refine BO (fun a w' hs=>⟨(Df c).length - (mm+1),by omega,(n40+1),(mm+1),(psG.set ((y49.AB.Index).toNat) (⟨y49.At,y52.Oq,y52.State,y52.Root,(⟨y52.Tables.a,y52.Tables.cap,y52.Tables.xs⟩:Sl Int)⟩:Aq)),csG,rfl,by omega,by omega,by rw[List.length_set];exact hlp,hlc,by rw[hT];show _=List.set _ _ _;rw[List.map_set,←hps,MR (by omega),←hy52];rfl,by rw[hT];exact hcs,by(try dsimp only[F7,Vb,IR,Dn,Di,Ih,ES,EQ,Fe,Fb,DR,GH,Dq,FW,Fg,BC,H5,D6,CJ,Ig]at hs ⊢);rw[hT,RU (f:=Aq.Tables) (by omega) (by rw[←hy52])];exact hs⟩)
  refine Au 5 0 [0] [[oF,o0]] [EF y49.AB.Kind 3] [(BC z),(CJ b7),(8,i6 ((BU c mm).ch)),(DR c b42 o43 cp38),(Dq c),(59,Ac mm),(H5 n40),(D6 y49),(13,i6 y49.AB.Index),(76,i6 y49.AB.Kind),(82,.bool false)] rfl ⟨ef,Ae⟩ ?_
  by_cases h53:(y49.AB.Kind:Int)=4
  ·refine Au 5 7 [1] [[oT,o0],[o0,(a1 5),o0,o0,(a1 9),(oi ((y49.AB.Index).toNat)),o0]] [ET y49.AB.Kind 4,Qb b7,Qb n40,(y49.AB.Index:Int)=(((y49.AB.Index).toNat:Nat):Int),(y49.AB.Index).toNat<c.Aa.xs.length,Ce] [(BC z),(CJ b7),(8,i6 ((BU c mm).ch)),(DR c b42 o43 cp38),(Dq c),(59,Ac mm),(D6 y49),(97,i6 y49.At),(99,.pointer (some ⟨b5,0+GZ 5 ((y49.AB.Index).toNat)+1,none⟩))] rfl ⟨et,rfl,rfl,(by omega),(by omega),rfl,Ae⟩ ?_
   obtain⟨y54,hy54⟩:∃ y,y=gd psG ((y49.AB.Index).toNat):=⟨_,rfl⟩
   refine Ou 3 ((y49.AB.Index).toNat) 1 psG (⟨y54.Lock,y49.At,y54.State,y54.Root,(⟨y54.Tables.a,y54.Tables.cap,y54.Tables.xs⟩:Sl Int)⟩:Aq) Aq.cells z 70 5 b5 c.Aa.xs.length c.Aa.xs.length (i6 y49.At) none (by first | omega | (rw[List.length_set];omega)) (by rw[←hy54];rfl) ?_
   refine Bq 6 0 [] [[],[(ov (i6 ((mm+1:Nat):Int))),o0]] [Wr ((mm:Int)+1) (((mm+1:Nat):Int))] [(BC z),(CJ b7),(8,i6 ((BU c mm).ch)),(DR c b42 o43 cp38),(Dq c),(Fg mm),(D6 y49)] rfl ⟨BQ,Ae⟩ ?_
   refine BX [0,1,2,3,4,5,6,7,8] [(Ak w),(Di c z),(Dn z),(Cm z 70 5 Aq.cells (.slice (some ⟨b5,0,none⟩) c.Aa.xs.length c.Aa.xs.length) (psG.set ((y49.AB.Index).toNat) (⟨y54.Lock,y49.At,y54.State,y54.Root,(⟨y54.Tables.a,y54.Tables.cap,y54.Tables.xs⟩:Sl Int)⟩:Aq))),(EQ c b6 z csG),(F7 b7 c mm b5 b6),(mid n30 w36),(Fb z csG),(Fe z psG)] rfl rfl ?_
   have hT:=JI (c:=c) (m:=mm) (by omega)
   rw[←hy49,st4 _ _ (by omega)]at hT
   refine GR [2,4,8,9,10,58,59] [(BC z),(CJ b7),(8,i6 ((BU c mm).ch)),(FW c cp38 ax37),(D6 y49),(Dq c),(Fg mm)] (by(try dsimp only[F7,IR,Dn,Di,Ih,ES,EQ,Fe,Fb,DR,GH,Dq,FW,Fg,BC,H5,D6,CJ,Ig]);simp only[ha44];rfl) ?_
   refine BO (fun a w' hs=>⟨(Df c).length - (mm+1),by omega,(n40+1),(mm+1),(psG.set ((y49.AB.Index).toNat) (⟨y54.Lock,y49.At,y54.State,y54.Root,(⟨y54.Tables.a,y54.Tables.cap,y54.Tables.xs⟩:Sl Int)⟩:Aq)),csG,rfl,by omega,by omega,by rw[List.length_set];exact hlp,hlc,by rw[hT];show _=List.set _ _ _;rw[List.map_set,←hps,MR (by omega),←hy54];rfl,by rw[hT];exact hcs,by(try dsimp only[F7,IR,Dn,Di,Ih,ES,EQ,Fe,Fb,DR,GH,Dq,FW,Fg,BC,H5,D6,CJ,Ig]at hs ⊢);rw[hT,RU (f:=Aq.Tables) (by omega) (by rw[←hy54])];exact hs⟩)
  refine Au 5 0 [0] [[oF,o0]] [EF y49.AB.Kind 4] [(BC z),(CJ b7),(8,i6 ((BU c mm).ch)),(DR c b42 o43 cp38),(Dq c),(59,Ac mm),(H5 n40),(D6 y49),(13,i6 y49.AB.Index),(76,i6 y49.AB.Kind),(91,.bool false)] rfl ⟨ef,Ae⟩ ?_
  by_cases h55:(y49.AB.Kind:Int)=5
  ·refine Au 5 7 [1] [[oT,o0],[o0,(a1 5),o0,o0,(a1 9),(oi ((y49.AB.Index).toNat)),o0]] [ET y49.AB.Kind 5,Qb b7,Qb n40,(y49.AB.Index:Int)=(((y49.AB.Index).toNat:Nat):Int),(y49.AB.Index).toNat<c.Aa.xs.length,Ce] [(BC z),(CJ b7),(8,i6 ((BU c mm).ch)),(DR c b42 o43 cp38),(Dq c),(59,Ac mm),(D6 y49),(106,i6 y49.At),(108,.pointer (some ⟨b5,0+GZ 5 ((y49.AB.Index).toNat)+2,none⟩))] rfl ⟨et,rfl,rfl,(by omega),(by omega),rfl,Ae⟩ ?_
   obtain⟨y56,hy56⟩:∃ y,y=gd psG ((y49.AB.Index).toNat):=⟨_,rfl⟩
   refine Ou 3 ((y49.AB.Index).toNat) 2 psG (⟨y56.Lock,y56.Oq,y49.At,y56.Root,(⟨y56.Tables.a,y56.Tables.cap,y56.Tables.xs⟩:Sl Int)⟩:Aq) Aq.cells z 70 5 b5 c.Aa.xs.length c.Aa.xs.length (i6 y49.At) none (by first | omega | (rw[List.length_set];omega)) (by rw[←hy56];rfl) ?_
   refine Bq 6 0 [] [[],[(ov (i6 ((mm+1:Nat):Int))),o0]] [Wr ((mm:Int)+1) (((mm+1:Nat):Int))] [(BC z),(CJ b7),(8,i6 ((BU c mm).ch)),(DR c b42 o43 cp38),(Dq c),(Fg mm),(D6 y49)] rfl ⟨BQ,Ae⟩ ?_
   refine BX [0,1,2,3,4,5,6,7,8] [(Ak w),(Di c z),(Dn z),(Cm z 70 5 Aq.cells (.slice (some ⟨b5,0,none⟩) c.Aa.xs.length c.Aa.xs.length) (psG.set ((y49.AB.Index).toNat) (⟨y56.Lock,y56.Oq,y49.At,y56.Root,(⟨y56.Tables.a,y56.Tables.cap,y56.Tables.xs⟩:Sl Int)⟩:Aq))),(EQ c b6 z csG),(F7 b7 c mm b5 b6),(mid n30 w36),(Fb z csG),(Fe z psG)] rfl rfl ?_
   have hT:=JI (c:=c) (m:=mm) (by omega)
   rw[←hy49,st5 _ _ (by omega)]at hT
   refine GR [2,4,8,9,10,58,59] [(BC z),(CJ b7),(8,i6 ((BU c mm).ch)),(FW c cp38 ax37),(D6 y49),(Dq c),(Fg mm)] (by(try dsimp only[F7,IR,Dn,Di,Ih,ES,EQ,Fe,Fb,DR,GH,Dq,FW,Fg,BC,H5,D6,CJ,Ig]);simp only[ha44];rfl) ?_
   refine BO (fun a w' hs=>⟨(Df c).length - (mm+1),by omega,(n40+1),(mm+1),(psG.set ((y49.AB.Index).toNat) (⟨y56.Lock,y56.Oq,y49.At,y56.Root,(⟨y56.Tables.a,y56.Tables.cap,y56.Tables.xs⟩:Sl Int)⟩:Aq)),csG,rfl,by omega,by omega,by rw[List.length_set];exact hlp,hlc,by rw[hT];show _=List.set _ _ _;rw[List.map_set,←hps,MR (by omega),←hy56];rfl,by rw[hT];exact hcs,by(try dsimp only[F7,IR,Dn,Di,Ih,ES,EQ,Fe,Fb,DR,GH,Dq,FW,Fg,BC,H5,D6,CJ,Ig]at hs ⊢);rw[hT,RU (f:=Aq.Tables) (by omega) (by rw[←hy56])];exact hs⟩)
  refine Au 5 0 [0] [[oF,o0]] [EF y49.AB.Kind 5] [(BC z),(CJ b7),(8,i6 ((BU c mm).ch)),(DR c b42 o43 cp38),(Dq c),(59,Ac mm),(H5 n40),(D6 y49),(13,i6 y49.AB.Index),(76,i6 y49.AB.Kind),(100,.bool false)] rfl ⟨ef,Ae⟩ ?_
  by_cases h57:(y49.AB.Kind:Int)=6
  ·refine Au 6 7 [1] [[oT,o0],[o0,(a1 5),o0,o0,(a1 9),(oi ((y49.AB.Index).toNat)),o0]] [ET y49.AB.Kind 6,Qb b7,Qb n40,(y49.AB.Index:Int)=(((y49.AB.Index).toNat:Nat):Int),(y49.AB.Index).toNat<c.Aj.xs.length,Ce] [(BC z),(CJ b7),(DR c b42 o43 cp38),(Dq c),(59,Ac mm),(D6 y49),(13,i6 y49.AB.Index),(115,i6 y49.At),(117,.pointer (some ⟨b6,0+GZ 5 ((y49.AB.Index).toNat),none⟩))] rfl ⟨et,rfl,rfl,(by omega),(by omega),rfl,Ae⟩ ?_
   obtain⟨y58,hy58⟩:∃ y,y=gd csG ((y49.AB.Index).toNat):=⟨_,rfl⟩
   refine Ou 4 ((y49.AB.Index).toNat) 0 csG (⟨y49.At,y58.Pg,y58.Partition,y58.Port,(⟨y58.DJ.a,y58.DJ.cap,y58.DJ.xs⟩:Sl BH)⟩:A8) A8.cells z 91 5 b6 c.Aj.xs.length c.Aj.xs.length (i6 y49.At) none (by first | omega | (rw[List.length_set];omega)) (by rw[←hy58];rfl) ?_
   refine Bq 9 0 [] [[],[o0,o0],[(ov (i6 ((mm+1:Nat):Int))),o0]] [Wr ((mm:Int)+1) (((mm+1:Nat):Int))] [(BC z),(CJ b7),(DR c b42 o43 cp38),(Dq c),(Fg mm),(D6 y49),(8,i6 y49.AB.Index)] rfl ⟨BQ,Ae⟩ ?_
   refine BX [0,1,2,3,4,5,6,7,8] [(Ak w),(Di c z),(Dn z),(ES c b5 z psG),(Cm z 91 5 A8.cells (.slice (some ⟨b6,0,none⟩) c.Aj.xs.length c.Aj.xs.length) (csG.set ((y49.AB.Index).toNat) (⟨y49.At,y58.Pg,y58.Partition,y58.Port,(⟨y58.DJ.a,y58.DJ.cap,y58.DJ.xs⟩:Sl BH)⟩:A8))),(F7 b7 c mm b5 b6),(mid n30 w36),(Fb z csG),(Fe z psG)] rfl rfl ?_
   have hT:=JI (c:=c) (m:=mm) (by omega)
   rw[←hy49,st6 _ _ (by omega)]at hT
   refine GR [2,4,8,9,10,58,59] [(BC z),(CJ b7),(8,i6 y49.AB.Index),(FW c cp38 ax37),(D6 y49),(Dq c),(Fg mm)] (by(try dsimp only[F7,IR,Dn,Di,Ih,ES,EQ,Fe,Fb,DR,GH,Dq,FW,Fg,BC,H5,D6,CJ,Ig]);simp only[ha44];rfl) ?_
   refine BO (fun a w' hs=>⟨(Df c).length - (mm+1),by omega,(n40+1),(mm+1),psG,(csG.set ((y49.AB.Index).toNat) (⟨y49.At,y58.Pg,y58.Partition,y58.Port,(⟨y58.DJ.a,y58.DJ.cap,y58.DJ.xs⟩:Sl BH)⟩:A8)),rfl,by omega,by omega,hlp,by rw[List.length_set];exact hlc,by rw[hT];exact hps,by rw[hT];show _=List.set _ _ _;rw[List.map_set,←hcs,MR (by omega),←hy58];rfl,by(try dsimp only[F7,IR,Dn,Di,Ih,ES,EQ,Fe,Fb,DR,GH,Dq,FW,Fg,BC,H5,D6,CJ,Ig]at hs ⊢);rw[hT,RU (f:=A8.DJ) (by omega) (by rw[←hy58])];exact hs⟩)
  refine Au 5 0 [0] [[oF,o0]] [EF y49.AB.Kind 6] [(BC z),(CJ b7),(8,i6 ((BU c mm).ch)),(DR c b42 o43 cp38),(Dq c),(59,Ac mm),(H5 n40),(D6 y49),(13,i6 y49.AB.Index),(76,i6 y49.AB.Kind),(109,.bool false)] rfl ⟨ef,Ae⟩ ?_
  by_cases h59:(y49.AB.Kind:Int)=7
  ·refine Au 5 7 [1] [[oT,o0],[o0,(a1 5),o0,o0,(a1 9),(oi ((y49.AB.Index).toNat)),o0]] [ET y49.AB.Kind 7,Qb b7,Qb n40,(y49.AB.Index:Int)=(((y49.AB.Index).toNat:Nat):Int),(y49.AB.Index).toNat<c.Aj.xs.length,Ce] [(BC z),(CJ b7),(8,i6 ((BU c mm).ch)),(DR c b42 o43 cp38),(Dq c),(59,Ac mm),(D6 y49),(125,i6 y49.At),(127,.pointer (some ⟨b6,0+GZ 5 ((y49.AB.Index).toNat)+1,none⟩))] rfl ⟨et,rfl,rfl,(by omega),(by omega),rfl,Ae⟩ ?_
   obtain⟨y60,hy60⟩:∃ y,y=gd csG ((y49.AB.Index).toNat):=⟨_,rfl⟩
   refine Ou 4 ((y49.AB.Index).toNat) 1 csG (⟨y60.Lock,y49.At,y60.Partition,y60.Port,(⟨y60.DJ.a,y60.DJ.cap,y60.DJ.xs⟩:Sl BH)⟩:A8) A8.cells z 91 5 b6 c.Aj.xs.length c.Aj.xs.length (i6 y49.At) none (by first | omega | (rw[List.length_set];omega)) (by rw[←hy60];rfl) ?_
   refine Bq 6 0 [] [[],[(ov (i6 ((mm+1:Nat):Int))),o0]] [Wr ((mm:Int)+1) (((mm+1:Nat):Int))] [(BC z),(CJ b7),(8,i6 ((BU c mm).ch)),(DR c b42 o43 cp38),(Dq c),(Fg mm),(D6 y49)] rfl ⟨BQ,Ae⟩ ?_
   refine BX [0,1,2,3,4,5,6,7,8] [(Ak w),(Di c z),(Dn z),(ES c b5 z psG),(Cm z 91 5 A8.cells (.slice (some ⟨b6,0,none⟩) c.Aj.xs.length c.Aj.xs.length) (csG.set ((y49.AB.Index).toNat) (⟨y60.Lock,y49.At,y60.Partition,y60.Port,(⟨y60.DJ.a,y60.DJ.cap,y60.DJ.xs⟩:Sl BH)⟩:A8))),(F7 b7 c mm b5 b6),(mid n30 w36),(Fb z csG),(Fe z psG)] rfl rfl ?_
   have hT:=JI (c:=c) (m:=mm) (by omega)
   rw[←hy49,st7 _ _ (by omega)]at hT
   refine GR [2,4,8,9,10,58,59] [(BC z),(CJ b7),(8,i6 ((BU c mm).ch)),(FW c cp38 ax37),(D6 y49),(Dq c),(Fg mm)] (by(try dsimp only[F7,IR,Dn,Di,Ih,ES,EQ,Fe,Fb,DR,GH,Dq,FW,Fg,BC,H5,D6,CJ,Ig]);simp only[ha44];rfl) ?_
   refine BO (fun a w' hs=>⟨(Df c).length - (mm+1),by omega,(n40+1),(mm+1),psG,(csG.set ((y49.AB.Index).toNat) (⟨y60.Lock,y49.At,y60.Partition,y60.Port,(⟨y60.DJ.a,y60.DJ.cap,y60.DJ.xs⟩:Sl BH)⟩:A8)),rfl,by omega,by omega,hlp,by rw[List.length_set];exact hlc,by rw[hT];exact hps,by rw[hT];show _=List.set _ _ _;rw[List.map_set,←hcs,MR (by omega),←hy60];rfl,by(try dsimp only[F7,IR,Dn,Di,Ih,ES,EQ,Fe,Fb,DR,GH,Dq,FW,Fg,BC,H5,D6,CJ,Ig]at hs ⊢);rw[hT,RU (f:=A8.DJ) (by omega) (by rw[←hy60])];exact hs⟩)
  refine Au 5 0 [0] [[oF,o0]] [EF y49.AB.Kind 7] [(BC z),(CJ b7),(8,i6 ((BU c mm).ch)),(DR c b42 o43 cp38),(Dq c),(59,Ac mm),(H5 n40),(D6 y49),(13,i6 y49.AB.Index),(76,i6 y49.AB.Kind),(119,.bool false)] rfl ⟨ef,Ae⟩ ?_
  by_cases h61:(y49.AB.Kind:Int)=8
  ·refine Au 4 0 [1] [[oT,o0]] [ET y49.AB.Kind 8] [(BC z),(CJ b7),(8,i6 ((BU c mm).ch)),(DR c b42 o43 cp38),(Dq c),(59,Ac mm),(H5 n40),(D6 y49),(13,i6 y49.AB.Index),(76,i6 y49.AB.Kind),(128,.bool true)] rfl ⟨et,Ae⟩ ?_
   obtain⟨y62,hy62⟩:∃ y,y=gd csG (((BU c mm).ch).toNat):=⟨_,rfl⟩
   refine g_famOut 7 [0,1,2,3,4,5,6,8,9] z 99 3 BH.cells (csG.map A8.DJ) (((BU c mm).ch).toNat) y62.DJ (by rw[MR (by omega),←hy62]) (by rw[List.length_map];omega) [(Ak w),(Di c z),(Dn z),(ES c b5 z psG),(EQ c b6 z csG),(F7 b7 c mm b5 b6),(mid n30 w36),(Fe z psG),(Jt y49 n40)] ?_
   have hbig:y62.DJ.xs.length≤mm:=by have hb:=(WY hfine mm (by omega)).2 (nC y62) (by rw[hy62,←hcs];exact List.mem_map_of_mem (QN (by omega)));exact hb
   refine DX 20 [0,1,2,3,4,5,6,7,8,9] [(Ak w),(Di c z),(Dn z),(ES c b5 z psG),(EQ c b6 z csG),(F7 b7 c mm b5 b6),(mid n30 w36),(Fe z psG),(Jt y49 n40),(Vq c mm z csG)] rfl rfl ?_
   refine CU [(0,o0),(1,(a1 5)),(2,o0),(3,o0),(4,(a1 5)),(5,o0),(6,(oi (((BU c mm).ch).toNat))),(7,o0),(8,(oa [.via 4 (.slice y62.DJ.a y62.DJ.xs.length y62.DJ.cap)])),(9,o0),(10,o0),(11,o0),(12,(a1 8)),(13,o0),(14,(a1 8)),(15,o0)] [2,4,8,9,58,59,10,131,132,138,145] [Qb b7,Qb b7,((BU c mm).ch:Int)=((((BU c mm).ch).toNat:Nat):Int),((BU c mm).ch).toNat<c.Aj.xs.length,Ce,∀ w',Ch.holds (EQ c b6 z csG) w'→w'.cell? ⟨b6,0+GZ 5 (((BU c mm).ch).toNat)+4,none⟩=some (.slice y62.DJ.a y62.DJ.xs.length y62.DJ.cap),Qb n40,Qb n40] (D7 16 5) [(BC z),(CJ b7),(8,i6 ((BU c mm).ch)),(DR c b42 o43 cp38),(Dq c),(59,Ac mm),(D6 y49),(Vo c b6),(132,i6 ((BU c mm).ch)),(138,.slice y62.DJ.a y62.DJ.xs.length y62.DJ.cap),(145,.agg #[i6 y49.AB.Index,i6 y49.AB.Port,i6 y49.At])] ⟨rfl,rfl,(by omega),(by omega),rfl,Fp (sz:=5) (j:=((BU c mm).ch).toNat) (k:=4) (fun _=>rfl) (by first | omega | (rw[List.length_set];omega)) (by rw[←hy62];rfl),rfl,rfl,Ae⟩ ?_
   refine Bl 16 ?_
   refine BA o0 [2,4,8,9,58,59,10,131,132,138,146] [] [(BC z),(CJ b7),(8,i6 ((BU c mm).ch)),(DR c b42 o43 cp38),(Dq c),(59,Ac mm),(D6 y49),(Vo c b6),(132,i6 ((BU c mm).ch)),(138,.slice y62.DJ.a y62.DJ.xs.length y62.DJ.cap),(146,.slice (some ⟨n40+1,0,none⟩) 1 1)] ⟨w,n40+2,[(Ak w),(Di c z),(Dn z),(ES c b5 z psG),(EQ c b6 z csG),(F7 b7 c mm b5 b6),(mid n30 w36),(Fe z psG),(Jt y49 n40),(Vq c mm z csG),(Cm z 99 3 BH.cells (.slice y62.DJ.a y62.DJ.xs.length y62.DJ.cap) y62.DJ.xs),(Wh y49 n40)]⟩ [0,1,2,3,4,5,6,7,8,9] Ae (.inr rfl) ?_
   refine Bl 17 ?_
   refine PO z 10 11 y62.DJ.xs [(⟨y49.AB.Index,y49.AB.Port,y49.At⟩:BH)] BH.cells 99 3 24 (.slice y62.DJ.a y62.DJ.xs.length y62.DJ.cap) (n40+1) 1 1 #[i6 y49.AB.Index,i6 y49.AB.Port,i6 y49.At] 99 (0,0) true (some 147) [0,1,2,3,4,5,6,7,8,9] (by simp only[List.length_cons,List.length_nil,List.length_append];omega) (show z≤n40+2 by omega) (.inr ⟨rfl,rfl⟩) (fun ax63 cp64 n65 (hn66:n40+2≤n65) => ?_)
   refine Dw [2,4,8,9,58,59,10,131,132,147] [(BC z),(CJ b7),(8,i6 ((BU c mm).ch)),(DR c b42 o43 cp38),(Dq c),(59,Ac mm),(D6 y49),(Vo c b6),(132,i6 ((BU c mm).ch)),(147,.slice ax63 ((y62.DJ.xs++[(⟨y49.AB.Index,y49.AB.Port,y49.At⟩:BH)]).length) cp64)] ?_
   refine CU [(18,(oi (((BU c mm).ch).toNat))),(19,o0)] [2,4,8,9,58,59,10,147,149] [((BU c mm).ch:Int)=((((BU c mm).ch).toNat:Nat):Int),((BU c mm).ch).toNat<c.Aj.xs.length,Ce] (D7 20 1) [(BC z),(CJ b7),(8,i6 ((BU c mm).ch)),(DR c b42 o43 cp38),(Dq c),(59,Ac mm),(D6 y49),(147,.slice ax63 ((y62.DJ.xs++[(⟨y49.AB.Index,y49.AB.Port,y49.At⟩:BH)]).length) cp64),(149,.pointer (some ⟨b6,0+GZ 5 (((BU c mm).ch).toNat)+4,none⟩))] ⟨(by omega),(by omega),rfl,Ae⟩ ?_
   refine Bl 20 ?_
   refine UA 4 (((BU c mm).ch).toNat) 4 csG (⟨y62.Lock,y62.Pg,y62.Partition,y62.Port,(⟨ax63,cp64,(y62.DJ.xs++[(⟨y49.AB.Index,y49.AB.Port,y49.At⟩:BH)])⟩:Sl BH)⟩:A8) A8.cells z 91 5 b6 c.Aj.xs.length c.Aj.xs.length (.slice ax63 ((y62.DJ.xs++[(⟨y49.AB.Index,y49.AB.Port,y49.At⟩:BH)]).length) cp64) none [] (by first | omega | (rw[List.length_set];omega)) (by rw[←hy62];rfl) (.inl rfl) ?_
   refine Dw [2,4,8,9,58,59,10] [(BC z),(CJ b7),(8,i6 ((BU c mm).ch)),(DR c b42 o43 cp38),(Dq c),(59,Ac mm),(D6 y49)] ?_
   refine DU 21 [0,1,2,3,4,5,6,7,8,9,10,11] [(Ak w),(Di c z),(Dn z),(ES c b5 z psG),(Vd c mm b6 y49 z csG y62 ax63 cp64),(F7 b7 c mm b5 b6),(mid n30 w36),(Fe z psG),(Jt y49 n40),(Vq c mm z csG),(Cm z 99 3 BH.cells (.slice ax63 ((y62.DJ.xs++[(⟨y49.AB.Index,y49.AB.Port,y49.At⟩:BH)]).length) cp64) (y62.DJ.xs++[(⟨y49.AB.Index,y49.AB.Port,y49.At⟩:BH)])),(Wh y49 n40)] rfl rfl ?_
   refine CO ?_
   refine LX 5 0 [] [[(ov (i6 ((mm+1:Nat):Int))),o0]] [Wr ((mm:Int)+1) (((mm+1:Nat):Int))] [(BC z),(CJ b7),(8,i6 ((BU c mm).ch)),(DR c b42 o43 cp38),(Dq c),(Fg mm),(D6 y49)] rfl ⟨BQ,Ae⟩ ?_
   refine e_famIn 9 10 [0,1,2,3,4,5,6,7,8,11] z 99 3 BH.cells (csG.map A8.DJ) (((BU c mm).ch).toNat) (by rw[List.length_map];omega) ax63 cp64 (y62.DJ.xs++[(⟨y49.AB.Index,y49.AB.Port,y49.At⟩:BH)]) [(Ak w),(Di c z),(Dn z),(ES c b5 z psG),(Vd c mm b6 y49 z csG y62 ax63 cp64),(F7 b7 c mm b5 b6),(mid n30 w36),(Fe z psG),(Jt y49 n40),(Wh y49 n40)] ?_
   refine BX [0,1,2,3,4,5,6,10,7] [(Ak w),(Di c z),(Dn z),(ES c b5 z psG),(Vd c mm b6 y49 z csG y62 ax63 cp64),(F7 b7 c mm b5 b6),(mid n30 w36),(IP z 99 3 BH.cells ((csG.map A8.DJ).set (((BU c mm).ch).toNat) ⟨ax63,cp64,(y62.DJ.xs++[(⟨y49.AB.Index,y49.AB.Port,y49.At⟩:BH)])⟩)),(Fe z psG)] rfl rfl ?_
   have hT:=JI (c:=c) (m:=mm) (by omega)
   rw[←hy49,st8 _ _ (by omega)]at hT
   refine GR [2,4,8,9,10,58,59] [(BC z),(CJ b7),(8,i6 ((BU c mm).ch)),(FW c cp38 ax37),(D6 y49),(Dq c),(Fg mm)] (by(try dsimp only[F7,IR,Wh,Dn,Jt,Di,Vd,Ih,ES,EQ,Vq,Fe,Fb,Vo,DR,GH,Dq,FW,Fg,BC,D6,CJ,Ig]);simp only[ha44];rfl) ?_
   refine BO (fun a w' hs=>⟨(Df c).length - (mm+1),by omega,n65,(mm+1),psG,(csG.set (((BU c mm).ch).toNat) (⟨y62.Lock,y62.Pg,y62.Partition,y62.Port,(⟨ax63,cp64,(y62.DJ.xs++[(⟨y49.AB.Index,y49.AB.Port,y49.At⟩:BH)])⟩:Sl BH)⟩:A8)),rfl,by omega,by omega,hlp,by rw[List.length_set];exact hlc,by rw[hT];exact hps,by rw[hT];show _=List.set _ _ _;rw[List.map_set,←hcs,MR (by omega),←hy62];rfl,by(try dsimp only[F7,IR,Wh,Dn,Jt,Di,Vd,Ih,ES,EQ,Vq,Fe,Fb,Vo,DR,GH,Dq,FW,Fg,BC,D6,CJ,Ig]at hs ⊢);rw[hT,List.map_set];exact hs⟩)
  refine Au 5 0 [0] [[oF,o0]] [EF y49.AB.Kind 8] [(BC z),(CJ b7),(8,i6 ((BU c mm).ch)),(DR c b42 o43 cp38),(Dq c),(59,Ac mm),(H5 n40),(D6 y49),(13,i6 y49.AB.Index),(76,i6 y49.AB.Kind),(128,.bool false)] rfl ⟨ef,Ae⟩ ?_
  by_cases h67:(y49.AB.Kind:Int)=9
  ·refine Au 5 0 [1] [[oT,o0]] [ET y49.AB.Kind 9] [(BC z),(CJ b7),(8,i6 ((BU c mm).ch)),(DR c b42 o43 cp38),(Dq c),(59,Ac mm),(H5 n40),(D6 y49),(13,i6 y49.AB.Index),(150,.bool true)] rfl ⟨et,Ae⟩ ?_
   obtain⟨y68,hy68⟩:∃ y,y=gd psG ((y49.AB.Index).toNat):=⟨_,rfl⟩
   by_cases h69:(y68.Root:Int)=0
   ·refine Au 5 8 [1] [[o0,(a1 5),o0,(oi ((y49.AB.Index).toNat)),o0,(oa [.via 3 (i6 y68.Root)]),oT],[o0,(a1 5),o0,o0,(a1 9),(ov (i6 (y49.At / 16))),(oi ((y49.AB.Index).toNat)),o0]] [Qb b7,(y49.AB.Index:Int)=(((y49.AB.Index).toNat:Nat):Int),(y49.AB.Index).toNat<c.Aa.xs.length,Ce,∀ w',Ch.holds (ES c b5 z psG) w'→w'.cell? ⟨b5,0+GZ 5 ((y49.AB.Index).toNat)+3,none⟩=some (i6 y68.Root),ET y68.Root 0,Qb b7,Qb n40,Wr (Int.tdiv (y49.At) 16) (y49.At / 16),(y49.AB.Index:Int)=(((y49.AB.Index).toNat:Nat):Int),(y49.AB.Index).toNat<c.Aa.xs.length,Ce] [(BC z),(CJ b7),(8,i6 ((BU c mm).ch)),(DR c b42 o43 cp38),(Dq c),(59,Ac mm),(D6 y49),(164,i6 (y49.At / 16)),(166,.pointer (some ⟨b5,0+GZ 5 ((y49.AB.Index).toNat)+3,none⟩))] rfl ⟨rfl,(by omega),(by omega),rfl,Fp (sz:=5) (j:=(y49.AB.Index).toNat) (k:=3) (fun _=>rfl) (by first | omega | (rw[List.length_set];omega)) (by rw[←hy68];rfl),et,rfl,rfl,congrArg (Value.int .i64) (Ob (by omega) (by omega) (by omega)),(by omega),(by omega),rfl,Ae⟩ ?_
    refine Ou 3 ((y49.AB.Index).toNat) 3 psG (⟨y68.Lock,y68.Oq,y68.State,y49.At / 16,(⟨y68.Tables.a,y68.Tables.cap,y68.Tables.xs⟩:Sl Int)⟩:Aq) Aq.cells z 70 5 b5 c.Aa.xs.length c.Aa.xs.length (i6 (y49.At / 16)) none (by first | omega | (rw[List.length_set];omega)) (by rw[←hy68];rfl) ?_
    refine Bq 6 0 [] [[],[(ov (i6 ((mm+1:Nat):Int))),o0]] [Wr ((mm:Int)+1) (((mm+1:Nat):Int))] [(BC z),(CJ b7),(8,i6 ((BU c mm).ch)),(DR c b42 o43 cp38),(Dq c),(Fg mm),(D6 y49)] rfl ⟨BQ,Ae⟩ ?_
    refine BX [0,1,2,3,4,5,6,7,8] [(Ak w),(Di c z),(Dn z),(Cm z 70 5 Aq.cells (.slice (some ⟨b5,0,none⟩) c.Aa.xs.length c.Aa.xs.length) (psG.set ((y49.AB.Index).toNat) (⟨y68.Lock,y68.Oq,y68.State,y49.At / 16,(⟨y68.Tables.a,y68.Tables.cap,y68.Tables.xs⟩:Sl Int)⟩:Aq))),(EQ c b6 z csG),(F7 b7 c mm b5 b6),(mid n30 w36),(Fb z csG),(Fe z psG)] rfl rfl ?_
    have hT:=JI (c:=c) (m:=mm) (by omega)
    rw[←hy49,st9 _ _ (by omega)]at hT
    refine GR [2,4,8,9,10,58,59] [(BC z),(CJ b7),(8,i6 ((BU c mm).ch)),(FW c cp38 ax37),(D6 y49),(Dq c),(Fg mm)] (by(try dsimp only[F7,IR,Dn,Di,Ih,ES,EQ,Fe,Fb,DR,GH,Dq,FW,Fg,BC,H5,D6,CJ,Ig]);simp only[ha44];rfl) ?_
    refine BO (fun a w' hs=>⟨(Df c).length - (mm+1),by omega,(n40+1),(mm+1),(psG.set ((y49.AB.Index).toNat) (⟨y68.Lock,y68.Oq,y68.State,y49.At / 16,(⟨y68.Tables.a,y68.Tables.cap,y68.Tables.xs⟩:Sl Int)⟩:Aq)),csG,rfl,by omega,by omega,by rw[List.length_set];exact hlp,hlc,by rw[hT];show _=List.set _ _ _;rw[List.map_set,←hps,MR (by omega),←hy68];rw[tabF_pos (p:=nP y68) (show y68.Root=0 from by omega)];rfl,by rw[hT];exact hcs,by(try dsimp only[F7,IR,Dn,Di,Ih,ES,EQ,Fe,Fb,DR,GH,Dq,FW,Fg,BC,H5,D6,CJ,Ig]at hs ⊢);rw[hT,RU (f:=Aq.Tables) (by omega) (by rw[←hy68])];exact hs⟩)
   refine Au 4 0 [0] [[o0,(a1 5),o0,(oi ((y49.AB.Index).toNat)),o0,(oa [.via 3 (i6 y68.Root)]),oF]] [Qb b7,(y49.AB.Index:Int)=(((y49.AB.Index).toNat:Nat):Int),(y49.AB.Index).toNat<c.Aa.xs.length,Ce,∀ w',Ch.holds (ES c b5 z psG) w'→w'.cell? ⟨b5,0+GZ 5 ((y49.AB.Index).toNat)+3,none⟩=some (i6 y68.Root),EF y68.Root 0] [(BC z),(CJ b7),(8,i6 ((BU c mm).ch)),(DR c b42 o43 cp38),(Dq c),(59,Ac mm),(H5 n40),(D6 y49),(13,i6 y49.AB.Index),(158,.bool false)] rfl ⟨rfl,(by omega),(by omega),rfl,Fp (sz:=5) (j:=(y49.AB.Index).toNat) (k:=3) (fun _=>rfl) (by first | omega | (rw[List.length_set];omega)) (by rw[←hy68];rfl),ef,Ae⟩ ?_
   refine g_famOut 8 [0,1,2,3,4,5,6,7,9] z 3 1 (fun x:Int=>[i6 x]) (psG.map Aq.Tables) ((y49.AB.Index).toNat) y68.Tables (by rw[MR (by omega),←hy68]) (by rw[List.length_map];omega) [(Ak w),(Di c z),(Dn z),(ES c b5 z psG),(EQ c b6 z csG),(F7 b7 c mm b5 b6),(mid n30 w36),(Fb z csG),(Jt y49 n40)] ?_
   have hbig:y68.Tables.xs.length≤mm:=by have hb:=(WY hfine mm (by omega)).1 (nP y68) (by rw[hy68,←hps];exact List.mem_map_of_mem (QN (by omega)));exact hb
   refine DX 16 [0,1,2,3,4,5,6,7,8,9] [(Ak w),(Di c z),(Dn z),(ES c b5 z psG),(EQ c b6 z csG),(F7 b7 c mm b5 b6),(mid n30 w36),(Fb z csG),(Jt y49 n40),(UX y49 z psG)] rfl rfl ?_
   refine CU [(0,o0),(1,(a1 5)),(2,o0),(3,o0),(4,(a1 5)),(5,o0),(6,(oi ((y49.AB.Index).toNat))),(7,o0),(8,(oa [.via 3 (.slice y68.Tables.a y68.Tables.xs.length y68.Tables.cap)])),(9,o0),(10,(a1 8)),(11,(ov (i6 (y49.At / 16))))] [2,4,8,9,58,59,10,168,169,175,178] [Qb b7,Qb b7,(y49.AB.Index:Int)=(((y49.AB.Index).toNat:Nat):Int),(y49.AB.Index).toNat<c.Aa.xs.length,Ce,∀ w',Ch.holds (ES c b5 z psG) w'→w'.cell? ⟨b5,0+GZ 5 ((y49.AB.Index).toNat)+4,none⟩=some (.slice y68.Tables.a y68.Tables.xs.length y68.Tables.cap),Qb n40,Wr (Int.tdiv (y49.At) 16) (y49.At / 16)] (D7 12 5) [(BC z),(CJ b7),(8,i6 ((BU c mm).ch)),(DR c b42 o43 cp38),(Dq c),(59,Ac mm),(D6 y49),(Vw c b5),(169,i6 y49.AB.Index),(175,.slice y68.Tables.a y68.Tables.xs.length y68.Tables.cap),(178,i6 (y49.At / 16))] ⟨rfl,rfl,(by omega),(by omega),rfl,Fp (sz:=5) (j:=(y49.AB.Index).toNat) (k:=4) (fun _=>rfl) (by first | omega | (rw[List.length_set];omega)) (by rw[←hy68];rfl),rfl,congrArg (Value.int .i64) (Ob (by omega) (by omega) (by omega)),Ae⟩ ?_
   refine Bl 12 ?_
   refine BA o0 [2,4,8,9,58,59,10,168,169,175,179] [] [(BC z),(CJ b7),(8,i6 ((BU c mm).ch)),(DR c b42 o43 cp38),(Dq c),(59,Ac mm),(D6 y49),(Vw c b5),(169,i6 y49.AB.Index),(175,.slice y68.Tables.a y68.Tables.xs.length y68.Tables.cap),(179,.slice (some ⟨n40+1,0,none⟩) 1 1)] ⟨w,n40+2,[(Ak w),(Di c z),(Dn z),(ES c b5 z psG),(EQ c b6 z csG),(F7 b7 c mm b5 b6),(mid n30 w36),(Fb z csG),(Jt y49 n40),(UX y49 z psG),(Cm z 3 1 (fun x:Int=>[i6 x]) (.slice y68.Tables.a y68.Tables.xs.length y68.Tables.cap) y68.Tables.xs),(bk (n40+1) #[i6 (y49.At / 16)] 3)]⟩ [0,1,2,3,4,5,6,7,8,9] Ae (.inr rfl) ?_
   refine Bl 13 ?_
   refine PO z 10 11 y68.Tables.xs [y49.At / 16] (fun x:Int=>[i6 x]) 3 1 8 (.slice y68.Tables.a y68.Tables.xs.length y68.Tables.cap) (n40+1) 1 1 #[i6 (y49.At / 16)] 3 (0,0) true (some 180) [0,1,2,3,4,5,6,7,8,9] (by simp only[List.length_cons,List.length_nil,List.length_append];omega) (show z≤n40+2 by omega) (.inr ⟨rfl,rfl⟩) (fun ax70 cp71 n72 (hn73:n40+2≤n72) => ?_)
   refine Dw [2,4,8,9,58,59,10,168,169,180] [(BC z),(CJ b7),(8,i6 ((BU c mm).ch)),(DR c b42 o43 cp38),(Dq c),(59,Ac mm),(D6 y49),(Vw c b5),(169,i6 y49.AB.Index),(180,.slice ax70 ((y68.Tables.xs++[y49.At / 16]).length) cp71)] ?_
   refine CU [(14,(oi ((y49.AB.Index).toNat))),(15,o0)] [2,4,8,9,58,59,10,180,182] [(y49.AB.Index:Int)=(((y49.AB.Index).toNat:Nat):Int),(y49.AB.Index).toNat<c.Aa.xs.length,Ce] (D7 16 1) [(BC z),(CJ b7),(8,i6 ((BU c mm).ch)),(DR c b42 o43 cp38),(Dq c),(59,Ac mm),(D6 y49),(180,.slice ax70 ((y68.Tables.xs++[y49.At / 16]).length) cp71),(182,.pointer (some ⟨b5,0+GZ 5 ((y49.AB.Index).toNat)+4,none⟩))] ⟨(by omega),(by omega),rfl,Ae⟩ ?_
   refine Bl 16 ?_
   refine UA 3 ((y49.AB.Index).toNat) 4 psG (⟨y68.Lock,y68.Oq,y68.State,y68.Root,(⟨ax70,cp71,(y68.Tables.xs++[y49.At / 16])⟩:Sl Int)⟩:Aq) Aq.cells z 70 5 b5 c.Aa.xs.length c.Aa.xs.length (.slice ax70 ((y68.Tables.xs++[y49.At / 16]).length) cp71) none [] (by first | omega | (rw[List.length_set];omega)) (by rw[←hy68];rfl) (.inl rfl) ?_
   refine Dw [2,4,8,9,58,59,10] [(BC z),(CJ b7),(8,i6 ((BU c mm).ch)),(DR c b42 o43 cp38),(Dq c),(59,Ac mm),(D6 y49)] ?_
   refine DU 17 [0,1,2,3,4,5,6,7,8,9,10,11] [(Ak w),(Di c z),(Dn z),(Vg c b5 y49 z psG y68 ax70 cp71),(EQ c b6 z csG),(F7 b7 c mm b5 b6),(mid n30 w36),(Fb z csG),(Jt y49 n40),(UX y49 z psG),(Cm z 3 1 (fun x:Int=>[i6 x]) (.slice ax70 ((y68.Tables.xs++[y49.At / 16]).length) cp71) (y68.Tables.xs++[y49.At / 16])),(bk (n40+1) #[i6 (y49.At / 16)] 3)] rfl rfl ?_
   refine CO ?_
   refine LX 5 0 [] [[(ov (i6 ((mm+1:Nat):Int))),o0]] [Wr ((mm:Int)+1) (((mm+1:Nat):Int))] [(BC z),(CJ b7),(8,i6 ((BU c mm).ch)),(DR c b42 o43 cp38),(Dq c),(Fg mm),(D6 y49)] rfl ⟨BQ,Ae⟩ ?_
   refine e_famIn 9 10 [0,1,2,3,4,5,6,7,8,11] z 3 1 (fun x:Int=>[i6 x]) (psG.map Aq.Tables) ((y49.AB.Index).toNat) (by rw[List.length_map];omega) ax70 cp71 (y68.Tables.xs++[y49.At / 16]) [(Ak w),(Di c z),(Dn z),(Vg c b5 y49 z psG y68 ax70 cp71),(EQ c b6 z csG),(F7 b7 c mm b5 b6),(mid n30 w36),(Fb z csG),(Jt y49 n40),(bk (n40+1) #[i6 (y49.At / 16)] 3)] ?_
   refine BX [0,1,2,3,4,5,6,7,10] [(Ak w),(Di c z),(Dn z),(Vg c b5 y49 z psG y68 ax70 cp71),(EQ c b6 z csG),(F7 b7 c mm b5 b6),(mid n30 w36),(Fb z csG),(IP z 3 1 (fun x:Int=>[i6 x]) ((psG.map Aq.Tables).set ((y49.AB.Index).toNat) ⟨ax70,cp71,(y68.Tables.xs++[y49.At / 16])⟩))] rfl rfl ?_
   have hT:=JI (c:=c) (m:=mm) (by omega)
   rw[←hy49,st9 _ _ (by omega)]at hT
   refine GR [2,4,8,9,10,58,59] [(BC z),(CJ b7),(8,i6 ((BU c mm).ch)),(FW c cp38 ax37),(D6 y49),(Dq c),(Fg mm)] (by(try dsimp only[F7,IR,Dn,Jt,Di,Vg,Ih,UX,ES,EQ,Fe,Fb,Vw,DR,GH,Dq,FW,Fg,BC,D6,CJ,Ig]);simp only[ha44];rfl) ?_
   refine BO (fun a w' hs=>⟨(Df c).length - (mm+1),by omega,n72,(mm+1),(psG.set ((y49.AB.Index).toNat) (⟨y68.Lock,y68.Oq,y68.State,y68.Root,(⟨ax70,cp71,(y68.Tables.xs++[y49.At / 16])⟩:Sl Int)⟩:Aq)),csG,rfl,by omega,by omega,by rw[List.length_set];exact hlp,hlc,by rw[hT];show _=List.set _ _ _;rw[List.map_set,←hps,MR (by omega),←hy68];rw[tabF_neg (p:=nP y68) (show ¬ y68.Root=0 from by omega)];rfl,by rw[hT];exact hcs,by(try dsimp only[F7,IR,Dn,Jt,Di,Vg,Ih,UX,ES,EQ,Fe,Fb,Vw,DR,GH,Dq,FW,Fg,BC,D6,CJ,Ig]at hs ⊢);rw[hT,List.map_set];exact hs⟩)
  refine Au 10 0 [0] [[oF,o0],[(ov (i6 ((mm+1:Nat):Int))),o0]] [EF y49.AB.Kind 9,Wr ((mm:Int)+1) (((mm+1:Nat):Int))] [(BC z),(CJ b7),(8,i6 ((BU c mm).ch)),(DR c b42 o43 cp38),(Dq c),(Fg mm),(D6 y49)] rfl ⟨ef,BQ,Ae⟩ ?_
  exfalso;omega
 refine q_c 19 0 [0] [[oF],[o0,(ov (i6 (((BU c mm).fin)+16))),(ov (i6 ((((BU c mm).fin)+16) - 1))),(ov (i6 (((((BU c mm).fin)+16) - 1) / 16))),o0,(a1 5)],[(an 4 5),(an 4 2),o0]] [BF ((mm:Int)<(((Df c).length:Nat):Int)),Wr (((BU c mm).fin:Int)+16) (((BU c mm).fin)+16),Wr ((((BU c mm).fin)+16:Int) - 1) ((((BU c mm).fin)+16) - 1),Wr (Int.tdiv ((((BU c mm).fin)+16) - 1) 16) (((((BU c mm).fin)+16) - 1) / 16),Qb b7,Qb b7,Qb b7,Qb b7,Qb b7,Qb (z+1),Qb (z+1),Qb (z+1),Qb (z+1)] [(BC z),(3,i6 0)] ⟨w,n40,[(Ak w),(Di c z),(bk (z+1) #[i6 ((BU c mm).bar),.slice (some ⟨b5,0,none⟩) c.Aa.xs.length c.Aa.xs.length,.slice (some ⟨b6,0,none⟩) c.Aj.xs.length c.Aj.xs.length,i6 (((((BU c mm).fin)+16) - 1) / 16)] 60),(ES c b5 z psG),(EQ c b6 z csG),(bk b7 #[i6 ((BU c mm).bar),.slice (some ⟨b5,0,none⟩) c.Aa.xs.length c.Aa.xs.length,.slice (some ⟨b6,0,none⟩) c.Aj.xs.length c.Aj.xs.length,i6 (((((BU c mm).fin)+16) - 1) / 16)] 60),(mid n30 w36),(Fb z csG),(Fe z psG)]⟩ rfl ⟨bf,BQ,BQ,congrArg (Value.int .i64) (Ob (by omega) (by omega) (by omega)),rfl,rfl,rfl,rfl,rfl,rfl,rfl,rfl,rfl,Ae⟩ ?_
 refine Az [.at 2,.at 2,.at 2,.at 2] [Qb (z+1),Qb (z+1),Qb (z+1),Qb (z+1)] (.tuple #[.agg #[i6 ((BU c mm).bar),.slice (some ⟨b5,0,none⟩) c.Aa.xs.length c.Aa.xs.length,.slice (some ⟨b6,0,none⟩) c.Aj.xs.length c.Aj.xs.length,i6 (((((BU c mm).fin)+16) - 1) / 16)],i6 0]) ⟨rfl,rfl,rfl,rfl,Ae⟩ ?_
 intro w74 hw74
 have hm:mm=(Df c).length:=by omega
 subst hm
 have hL:VG c ⟨(BU c (Df c).length).bar,⟨(some ⟨b5,0,none⟩),c.Aa.xs.length,psG⟩,⟨(some ⟨b6,0,none⟩),c.Aj.xs.length,csG⟩,((BU c (Df c).length).fin+16 - 1) / 16⟩:=lay_of hfine hps hcs
 have hO:WE z w74 ⟨(BU c (Df c).length).bar,⟨(some ⟨b5,0,none⟩),c.Aa.xs.length,psG⟩,⟨(some ⟨b6,0,none⟩),c.Aj.xs.length,csG⟩,((BU c (Df c).length).fin+16 - 1) / 16⟩:=⟨w,by
  have h4:=hw74.pick [3,4,7,8] rfl rfl
  rw[hw74.size]
  unfold layS Sl.val
  simp only[hlp,hlc]
  exact h4⟩
 refine⟨_, ?_,hL,hz ▸ lay_ok hfine hL hO,hz ▸ hO,AA hw74⟩
 simp only[G9.arr,hlp,hlc]
theorem rneed_calls(w:World)(c:Ai)(hc:Ai.ok Any w c):Calls Tryd.prog 50 #[.agg (Ai.arr c)] w fun e w'=>e = .returned (.tuple #[.int .i64 (JL c),.int .i64 (errOf c)])∧CE (fun _=>False) w w':=by
 obtain⟨z,hz⟩:∃ z,z=w.heap.size:=⟨_,rfl⟩
 refine Cb (args:=[.agg (Ai.arr c)]) 19 ⟨w,z,[(Ak w)]⟩ Tryd.func50 rfl (by kernel_rfl) (by kernel_rfl) (Em hz) ?_
 refine DI [0] [(0,.agg (Ai.arr c))] ?_
 refine q_c 6 1 [] [[o0,o0,o0],[(an 7 1)]] [Qb z,Qb z,Qb z,Qb z,Qb z,Qb z,Qb z] [(1,pt z),(7,.agg (Ai.arr c))] ⟨w,z+1,[(Ak w),(bk z (Ai.arr c) 26)]⟩ rfl ⟨rfl,rfl,rfl,rfl,rfl,rfl,rfl,Ae⟩ ?_
 refine l_call [] [] 14 #[.agg (Ai.arr c)] (some 8) Ae ?_
 intro w1 hw1
 by_cases hok2:Ej c=true
 ·refine(rof_yes w1 c (hc.ext (hw1.ext rfl) (fun _ h=>h)) hok2).mono ?_
  rintro e w3 ⟨lw3,rfl,hIw3,hLw3,hOw3,hkw3⟩
  have hfw3:=TM hok2;have hknw3:=hfw3.kn;have hEw3:=hIw3.fin;have hEbw3:=QO hfw3 _ (Nat.le_refl _);have hpnw3:=hfw3.pn
  rw[hw1.size]at hLw3 hOw3
  have hnw3:z+1≤w3.heap.size:=I5 hw1 hkw3
  refine⟨_,_,rfl,hw1.Ud hkw3, ?_⟩
  refine F8 15 0 [0] [[o0,o0,o0,o0,(an 4 3),o0],[o0,o0],[o0,(a1 3),o0,(a1 1),(ov (i6 (lw3.End - c.Kernel))),o0,o0]] [Qb w3.heap.size,Qb w3.heap.size,Qb w3.heap.size,Qb w3.heap.size,Qb w3.heap.size,Qb z,Wr ((lw3.End:Int) - c.Kernel) (lw3.End - c.Kernel)] [(2,i6 (lw3.End - c.Kernel)),(3,i6 0)] ⟨w,w3.heap.size+1,[(Ak w),(bk z (Ai.arr c) 26),(mid (z+1) w3),(.blk w3.heap.size (.cells (G9.arr lw3) 60 (0,0)) true)]⟩ rfl ⟨rfl,rfl,rfl,rfl,rfl,rfl,BQ,Ae⟩ ?_
  refine Az [] [] (.tuple #[i6 (lw3.End - c.Kernel),i6 0]) Ae ?_
  intro w4 hw4
  refine⟨?_,AA hw4⟩
  unfold JL errOf;rw[if_pos hok2,if_pos hok2];rw[←hEw3]
 refine(rof_no w1 c (hc.ext (hw1.ext rfl) (fun _ h=>h)) (Bool.eq_false_iff.2 hok2)).mono ?_
 rintro e w5 ⟨rfl,hkw5⟩
 have hnw5:z+1≤w5.heap.size:=I5 hw1 hkw5
 refine⟨_,_,rfl,hw1.keeps hkw5, ?_⟩
 refine F8 13 0 [1] [[o0,o0,o0,o0,(an 4 2),o0],[o0,o0],[o0,o0,o0]] [Qb w5.heap.size,Qb w5.heap.size,Qb w5.heap.size,Qb w5.heap.size] [(2,i6 0),(3,i6 150)] ⟨w,w5.heap.size+1,[(Ak w),(bk z (Ai.arr c) 26),(.blk w5.heap.size (.cells #[i6 0,.slice none 0 0,.slice none 0 0,i6 0] 60 (0,0)) true)]⟩ rfl ⟨rfl,rfl,rfl,rfl,Ae⟩ ?_
 refine Az [] [] (.tuple #[i6 0,i6 150]) Ae ?_
 intro w6 hw6
 refine⟨?_,AA hw6⟩
 unfold JL errOf;rw[if_neg hok2,if_neg hok2]
end Go.Proofs.YtjdmhijaanmccaaDoor.Ly
