/- Packed: Gf, Gg, Rd, Row. No conditions. -/
import Derived.Test.YtjmcjekhgpakoaaPk5
import Derived.Test.YtjmcjekhgpakoaaRows
import Derived.WalkKit
import Derived.ProofKit
import Derived.OpenShut
import Derived.ShutString
import Derived.ChangeOld
import Derived.Below
import Derived.Carry
import Derived.SizedLaws
set_option maxHeartbeats 4000000
namespace Go.Proofs.Ytjmcjekhgpakoaa.Ck
open Go Go.Proofs.Ytjmcjekhgpakoaa.Eng Go.Proofs.Ytjmcjekhgpakoaa.Mem Go.Proofs.Ytjmcjekhgpakoaa.Ly Go.Proofs.Ytjmcjekhgpakoaa.Cf
set_option linter.unusedSimpArgs false
set_option linter.unusedVariables false
set_option maxRecDepth 100000
theorem ZM{α:Type}{s t:Sl α}(h:s.a=t.a):s.val.ownBlock=t.val.ownBlock:=by
 obtain⟨a,c,x⟩:=s
 obtain⟨a',c',x'⟩:=t
 simp only at h
 subst h
 cases a <;> rfl
theorem PL{α:Type}{n0 e sz b:Nat}{cells:α→List Value}{xs ys:List (Sl α)}(hl:xs.length=ys.length)(ha:∀ q,q<ys.length→(gd xs q).a=(gd ys q).a):(Aq n0 e sz cells xs).F b↔(Aq n0 e sz cells ys).F b:=by
 constructor
 ·rintro⟨s,hs,hb⟩
  obtain⟨i,hi,rfl⟩:=List.getElem_of_mem hs
  have hi':i<ys.length:=by omega
  refine⟨ys[i],List.getElem_mem hi', ?_⟩
  rw[←hb];exact(ZM (by rw[←Di hi,←Di hi'];exact ha i hi')).symm
 rintro⟨s,hs,hb⟩
 obtain⟨i,hi,rfl⟩:=List.getElem_of_mem hs
 have hi':i<xs.length:=by omega
 refine⟨xs[i],List.getElem_mem hi', ?_⟩
 rw[←hb];exact ZM (by rw[←Di hi,←Di hi'];exact ha i hi)
theorem blocks6{b:Nat}{a1 a2 a3 a4 a5 a6 b1 b2 b3 b4 b5 b6:Ch}(h1:a1.F b↔b1.F b)(h2:a2.F b↔b2.F b)(h3:a3.F b↔b3.F b)(h4:a4.F b↔b4.F b)(h5:a5.F b↔b5.F b)(h6:a6.F b↔b6.F b):EO [a1,a2,a3,a4,a5,a6] b↔EO [b1,b2,b3,b4,b5,b6] b:=by
 simp only[EO,List.mem_cons,List.not_mem_nil,or_false,exists_eq_or_imp,exists_eq_left]
 rw[h1,h2,h3,h4,h5,h6]
theorem Zi{α:Type}{xs:List (Sl α)}:xs.flatMap (fun x=>[Sl.val x])=xs.map Sl.val:=by induction xs with | nil=>rfl | cons x t ih=>simp[ih]
def SS(c:Am)(xs:List Int)(er:Int):Prop:=(FQ c=true∧(Ji c).length≤16384∧xs=Ji c∧er=0)∨(FQ c=true∧16384<(Ji c).length∧xs=[]∧er=2)∨(FQ c=false∧xs=[]∧er=112)
theorem ZW{c:Am}{xs ys:List Int}{e f:Int}(h:SS c xs e)(g:SS c ys f):ys=xs∧f=e:=by
 rcases h with⟨h1,h2,rfl,rfl⟩ | ⟨h1,h2,rfl,rfl⟩ | ⟨h1,rfl,rfl⟩ <;> rcases g with⟨g1,g2,rfl,rfl⟩ | ⟨g1,g2,rfl,rfl⟩ | ⟨g1,rfl,rfl⟩
 all_goals first | exact⟨rfl,rfl⟩ | (exfalso;omega) | (exfalso;rw[h1]at g1;cases g1)
theorem YK{c:Am}{xs:List Int}{e:Int}(h:SS c xs e):Ef xs∧xs.length≤16384:=by
 rcases h with⟨h1,h2,rfl,rfl⟩ | ⟨h1,h2,rfl,rfl⟩ | ⟨h1,rfl,rfl⟩
 ·exact⟨Zz h1,h2⟩
 ·exact⟨nil_byt,Nat.zero_le _⟩
 exact⟨nil_byt,Nat.zero_le _⟩
theorem plC_strip{c d:Am}(h:strip d=strip c):Hz d=Hz c:=by
 have hp:∀ x:Ag,Ja (GX x)=Ja x:=fun _=>rfl
 have h0:∀ x:Am,Hz (strip x)=Hz x:=fun x=>by
  unfold Hz strip
  simp only[List.map_map,LY]
  congr 1
 rw[←h0 d,h,h0]
theorem map_eq{α β γ:Type}{f:α→β}{g:α→γ}{k:β→γ}(h:∀ x,g x=k (f x)){xs ys:List α}(e:xs.map f=ys.map f):xs.map g=ys.map g:=by
 have e1:∀ zs:List α,zs.map g=(zs.map f).map k:=fun zs=>by rw[List.map_map];exact List.map_congr_left fun x _=>h x
 rw[e1,e,e1]
theorem Qq{c d:Am}(h:Hz d=Hz c):strip d=strip c:=by
 have n1:d.Frames=c.Frames:=congrArg G9.Frames h
 have n2:d.AX=c.AX:=congrArg G9.AX h
 have n3:d.Kernel=c.Kernel:=congrArg G9.Kernel h
 have n4:d.Room=c.Room:=congrArg G9.Room h
 have n5:d.Aj.xs.map Sl.xs=c.Aj.xs.map Sl.xs:=congrArg G9.Aj h
 have n6:d.Aa.xs.map Ja=c.Aa.xs.map Ja:=congrArg G9.Aa h
 have n7:d.Ah.xs=c.Ah.xs:=congrArg G9.Ah h
 have e5:=map_eq (f:=Sl.xs) (g:=LY) (k:=fun x=>(⟨none,0,x⟩:Sl Af)) (fun _=>rfl) n5
 have e6:=map_eq (f:=Ja) (g:=GX) (k:=fun x=>(⟨x.Name,x.Entry,x.AP,x.AA,x.AQ,x.AL,⟨none,0,x.Ad⟩,⟨none,0,x.Ai⟩⟩:Ag)) (fun _=>rfl) n6
 unfold strip
 rw[n1,n2,n3,n4,e5,e6]
 simp only[LY,n7]
theorem enc_same{w w':World}{c d:Am}(hc:Am.ok Any w c)(hd:Am.ok Any w' d)(h:strip d=strip c):FQ d=FQ c∧(FQ c=true→Ji d=Ji c):=by
 have hp:=plC_strip h
 have i1:=WU (P7 hc)
 have i2:=WU (P7 hd)
 rw[hp]at i2
 have e:FQ d=FQ c:=by rw[Bool.eq_iff_iff,i1,i2]
 refine⟨e,fun hk => ?_⟩
 have ho:=i1.1 hk
 rw[Y5 (P7 hc) ho,Y5 (P7 hd) (hp ▸ ho),hp]
theorem encIs_same{w w':World}{c d:Am}{xs:List Int}{e:Int}(hc:Am.ok Any w c)(hd:Am.ok Any w' d)(h:strip d=strip c)(g:SS d xs e):SS c xs e:=by
 obtain⟨e1,e2⟩:=enc_same hc hd h
 rcases g with⟨g1,g2,g3,g4⟩ | ⟨g1,g2,g3,g4⟩ | ⟨g1,g3,g4⟩
 ·rw[e1]at g1;rw[e2 g1]at g2 g3;exact .inl ⟨g1,g2,g3,g4⟩
 ·rw[e1]at g1;rw[e2 g1]at g2;exact .inr (.inl ⟨g1,g2,g3,g4⟩)
 rw[e1]at g1;exact .inr (.inr ⟨g1,g3,g4⟩)
theorem XR(w:World)(c:Am)(hc:Am.ok Any w c):Calls Try.prog 8 #[.agg (Am.arr c)] w fun e w'=>∃ xs a cap er,SS c xs er∧e = .returned (.tuple #[.slice a xs.length cap,.int .i64 er])∧w'.ownsRow w.heap.size 5 1 (.slice a xs.length cap) xs.length (xs.flatMap Bh)∧AV (fun _=>False) w w':=by
 refine(encode_calls w c hc).mono ?_
 rintro e w' ⟨⟨h1,h2,a,cap,he,ho⟩ | ⟨h1,h2,he⟩ | ⟨h1,he⟩,hk⟩
 ·exact⟨_,a,cap,0,.inl ⟨h1,h2,rfl,rfl⟩,he,ho,hk⟩
 ·exact⟨[],none,0,2,.inr (.inl ⟨h1,h2,rfl,rfl⟩),he,World.ownsRow_nil w' _ _ _,hk⟩
 exact⟨[],none,0,112,.inr (.inr ⟨h1,rfl,rfl⟩),he,World.ownsRow_nil w' _ _ _,hk⟩
theorem WG(w:World)(c:Am)(hc:Am.ok Any w c):Calls Try.prog 5 #[.agg (Am.arr c)] w fun e w'=>∃ xs a cap er,SS c xs er∧e = .returned (.tuple #[.slice a xs.length cap,.int .i64 er])∧w'.ownsRow w.heap.size 5 1 (.slice a xs.length cap) xs.length (xs.flatMap Bh)∧AV (fun _=>False) w w':=by
 refine(Zp w c hc).mono ?_
 rintro e w' ⟨⟨h1,h2,a,cap,he,ho⟩ | ⟨h1,h2,he⟩ | ⟨h1,he⟩,hk⟩
 ·exact⟨_,a,cap,0,.inl ⟨h1,h2,rfl,rfl⟩,he,ho,hk⟩
 ·exact⟨[],none,0,2,.inr (.inl ⟨h1,h2,rfl,rfl⟩),he,World.ownsRow_nil w' _ _ _,hk⟩
 exact⟨[],none,0,112,.inr (.inr ⟨h1,rfl,rfl⟩),he,World.ownsRow_nil w' _ _ _,hk⟩
def XY(xs:List Int)(d:Am)(at_ er:Int):Prop:=(I4 xs = .ok (Hz d)∧at_=0∧er=0)∨(∃ e q,I4 xs = .bad e q∧d=WY∧at_=(q:Nat)∧er=e)
theorem decIs_eq{xs:List Int}{d f:Am}{a b e g:Int}(h:XY xs d a e)(k:XY xs f b g):b=a∧g=e∧strip f=strip d:=by
 rcases h with⟨h1,rfl,rfl⟩ | ⟨e,q,h1,rfl,rfl,rfl⟩ <;> rcases k with⟨k1,rfl,rfl⟩ | ⟨e',q',k1,rfl,rfl,rfl⟩
 ·rw[h1]at k1;injection k1 with k1;exact⟨rfl,rfl,Qq k1.symm⟩
 ·rw[h1]at k1;cases k1
 ·rw[h1]at k1;cases k1
 rw[h1]at k1;injection k1 with k1 k2;subst k1;subst k2;exact⟨rfl,rfl,rfl⟩
theorem decIs_ok{xs:List Int}{d:Am}{a e:Int}{p:G9}(h:XY xs d a e)(hD:I4 xs = .ok p):e=0∧Hz d=p:=by
 rcases h with⟨h1,rfl,rfl⟩ | ⟨e,q,h1,rfl,rfl,rfl⟩
 ·rw[h1]at hD;injection hD with hD;exact⟨rfl,hD⟩
 rw[h1]at hD;cases hD
theorem WN{w w':World}{d:Am}(h:Made w w' (HY d)):Ul w.heap.size w' d:=by
 have h1:=h.1 w.heap.size (Nat.le_refl _)
 exact⟨w,by unfold Jd Sl.val;exact h1⟩
theorem Zaa{n:Nat}{w:World}:Am.ok (New n) w WY:=⟨U8 (by decide) (by decide),U8 (by decide) (by decide),U8 (by decide) (by decide),U8 (by decide) (by decide),RI,RI,RI⟩
theorem U9(w:World)(a:Option Addr)(cap n:Nat)(xs:List Int)(hn:xs.length=n)(hb:BD Bh 1 Any w ⟨a,cap,xs⟩)(hB:Ef xs):Calls Try.prog 33 #[.slice a n cap] w fun e w'=>∃ d at_ er,XY xs d at_ er∧e = .returned (.tuple #[.agg (Am.arr d),.int .i64 at_,.int .i64 er])∧Am.ok (New w.heap.size) w' d∧AV (fun _=>False) w w':=by
 subst hn
 cases hD:I4 xs with
 | ok p =>
  refine(decode_ok w ⟨a,cap,xs⟩ hb hB p hD).mono ?_
  rintro e w' ⟨d,rfl,h2,h3,h4⟩
  have hok:=((VU hB).1 hD).2.1
  have hk:Am.ok Any w' d:=Yq (z:=w.heap.size) (fun f hf=>(h3.1 w.heap.size (Nat.le_refl _)).all _ (List.mem_map_of_mem (f:=(· w.heap.size)) hf)) hok
  exact⟨d,0,0,.inl ⟨hD,rfl,rfl⟩,h2,Xz hk rfl (WN h3),h4⟩
 | bad er q =>
  refine(decode_bad w ⟨a,cap,xs⟩ hb hB er q hD).mono ?_
  rintro e w' ⟨h2,h4⟩
  exact⟨WY,_,_,.inr ⟨er,q,hD,rfl,rfl,rfl⟩,h2,Zaa,h4⟩
theorem rdecode_gen(w:World)(a:Option Addr)(cap n:Nat)(xs:List Int)(hn:xs.length=n)(hb:BD Bh 1 Any w ⟨a,cap,xs⟩)(hB:Ef xs):Calls Try.prog 36 #[.slice a n cap] w fun e w'=>∃ d at_ er,XY xs d at_ er∧e = .returned (.tuple #[.agg (Am.arr d),.int .i64 at_,.int .i64 er])∧Am.ok (New w.heap.size) w' d∧AV (fun _=>False) w w':=by
 subst hn
 cases hD:I4 xs with
 | ok p =>
  refine(rdecode_ok w ⟨a,cap,xs⟩ hb hB p hD).mono ?_
  rintro e w' ⟨d,rfl,h2,h3,h4⟩
  have hok:=((VU hB).1 hD).2.1
  have hk:Am.ok Any w' d:=Yq (z:=w.heap.size) (fun f hf=>(h3.1 w.heap.size (Nat.le_refl _)).all _ (List.mem_map_of_mem (f:=(· w.heap.size)) hf)) hok
  exact⟨d,0,0,.inl ⟨hD,rfl,rfl⟩,h2,Xz hk rfl (WN h3),h4⟩
 | bad er q =>
  refine(rdecode_bad w ⟨a,cap,xs⟩ hb hB er q hD).mono ?_
  rintro e w' ⟨h2,h4⟩
  exact⟨WY,_,_,.inr ⟨er,q,hD,rfl,rfl,rfl⟩,h2,Zaa,h4⟩
theorem few_of{d:Am}(ho:Vy (Hz d)):WB d:=by
 obtain⟨-, -, -, -,o5,o6,o7⟩:=ho
 refine⟨by have:=o5.1;simpa[Hz]using this,by have:=o6.1;simpa[Hz]using this,by have:=o7.1;simpa[Hz]using this,fun i hi => ?_,fun i hi => ?_,fun i hi => ?_⟩
 ·exact(o5.2 (gd d.Aj.xs i).xs (List.mem_map_of_mem (Nr hi))).1
 ·exact(o6.2 (Ja (gd d.Aa.xs i)) (List.mem_map_of_mem (Nr hi))).2.2.2.2.2.2.1.1
 exact(o6.2 (Ja (gd d.Aa.xs i)) (List.mem_map_of_mem (Nr hi))).2.2.2.2.2.2.2.1
theorem dec_own(w:World)(a:Option Addr)(cap n:Nat)(xs:List Int)(hn:xs.length=n)(hb:BD Bh 1 Any w ⟨a,cap,xs⟩)(hB:Ef xs)(p:G9)(hD:I4 xs = .ok p):Calls Try.prog 33 #[.slice a n cap] w fun e w'=>∃ d,Hz d=p∧e = .returned (.tuple #[.agg (Am.arr d),.int .i64 0,.int .i64 0])∧WB d∧Nw d∧Ul w.heap.size w' d∧AV (fun _=>False) w w':=by
 subst hn
 refine(decode_ok w ⟨a,cap,xs⟩ hb hB p hD).mono ?_
 rintro e w' ⟨d,rfl,h2,h3,h4⟩
 have hok:=((VU hB).1 hD).2.1
 have hO:=WN h3
 obtain⟨w0,hS⟩:=h3
 have hk:Am.ok Any w' d:=Yq (z:=w.heap.size) (fun f hf=>(w0 w.heap.size (Nat.le_refl _)).all _ (List.mem_map_of_mem (f:=(· w.heap.size)) hf)) hok
 exact⟨d,rfl,h2,few_of hok,num_of hk,hO,h4⟩
theorem conf_new{w0 W:World}{m n:Nat}{d:Am}(h:Sat ⟨w0,m,Jd n d⟩ W):∀ x∈Jd n d,∀ b,x.F b→n≤b:=by
 intro x hx b hb
 have hh:=h.all x hx
 simp only[Jd,List.mem_cons,List.not_mem_nil,or_false]at hx
 rcases hx with rfl | rfl | rfl | rfl | rfl | rfl
 ·exact MI hh b hb
 ·exact Ou hh b hb
 ·exact MI hh b hb
 ·exact Ou hh b hb
 ·exact Ou hh b hb
 exact MI hh b hb
theorem marked_conf(w:World)(d:Am)(n0:Nat)(w0:World)(hF:WB d)(hN:Nw d)(hO:Sat ⟨w0,w.heap.size,Jd n0 d⟩ w)(hn0:n0≤w.heap.size):Calls Try.prog 10 #[.agg (Am.arr d)] w fun e w'=>e = .returned (.tuple #[])∧(∃ d2:Am,Am.arr d2=Am.arr d∧Nw d2∧WB d2∧Sat ⟨w,w'.heap.size,Jd n0 d2⟩ w'∧EO (Jd n0 d2)=EO (Jd n0 d))∧AV (EO (Jd n0 d)) w w':=by
 obtain⟨f1,f2,f3,f4,⟨aC,cC,XC⟩,⟨aP,cP,XP⟩,⟨aH,cH,XH⟩⟩:=d
 have b1:XC.length≤255:=hF.cl
 have b2:XP.length≤255:=hF.pl
 have b3:XH.length≤255:=hF.hl
 have bw:∀ q,q<XC.length→(gd XC q).xs.length≤255:=hF.ws
 have br:∀ q,q<XP.length→(gd XP q).Ad.xs.length≤255:=hF.rs
 have bq:∀ q,q<XP.length→(gd XP q).Ai.xs.length≤255:=hF.qs
 have hk:=Uu hN hF hO
 have t1:=sm_le (f:=(fun q=>(gd XC q).xs.length)) (n:=XC.length) bw
 have t2:=sm_le (f:=(fun q=>(gd XP q).Ad.xs.length+(gd XP q).Ai.xs.length)) (K:=510) (n:=XP.length) (fun q hq=>by have:=br q hq;have:=bq q hq;omega)
 have t3:XC.length*255≤255*255:=Nat.mul_le_mul_right _ b1
 have t4:XP.length*510≤255*510:=Nat.mul_le_mul_right _ b2
 have hb:1000+sm (fun q=>(gd XC q).xs.length) XC.length+sm (fun q=>(gd XP q).Ad.xs.length+(gd XP q).Ai.xs.length) XP.length+XH.length≤9000000000000000000:=by omega
 have gR:∀ q,gd (XP.map Ag.Ad) q=(gd XP q).Ad:=fun q=>Wq (by rfl) _ _
 have gQ:∀ q,gd (XP.map Ag.Ai) q=(gd XP q).Ai:=fun q=>Wq (by rfl) _ _
 have hW:Q9 XC.length (gd XC) XC:=⟨Nat.le_refl _,fun q _=>⟨rfl,Nat.le_refl _⟩⟩
 have hR:Q9 XP.length (fun q=>(gd XP q).Ad) (XP.map Ag.Ad):=⟨by rw[List.length_map];exact Nat.le_refl _,fun q _=>by rw[gR];exact⟨rfl,Nat.le_refl _⟩⟩
 have hQ:Q9 XP.length (fun q=>(gd XP q).Ai) (XP.map Ag.Ai):=⟨by rw[List.length_map];exact Nat.le_refl _,fun q _=>by rw[gQ];exact⟨rfl,Nat.le_refl _⟩⟩
 refine(UW w f1 f2 f3 f4 aC XC.length cC cC XC XC aP XP.length cP cP XP (XP.map Ag.Ad) (XP.map Ag.Ai) aH XH.length cH cH XH n0 w0 hO _ rfl hn0 hW hR hQ (Nat.le_refl _) (Nat.le_refl _) (Nat.le_refl _) (by omega) (by omega) hb).mono ?_
 rintro e w' ⟨rfl,⟨ws',rs',qs',mW,mR,mQ,hs⟩,hkp⟩
 have lW:=mW.len
 have lR:=mR.len
 have lQ:=mQ.len
 rw[List.length_map]at lR lQ
 let D:=Kq f1 f2 f3 f4 aC XC.length cC XC aP XP.length cP XP aH XH.length cH
 have eC:(List.range XC.length).map (wM XC)=ws':=by
  apply List.ext_getElem (by simp[lW])
  intro q h1 h2
  have hq:q<XC.length:=by simpa using h1
  rw[List.getElem_map,List.getElem_range,←Di h2,mW.lo q hq]
  show wM XC q=⟨_,_,BU _ _ _⟩
  rw[SA rfl];rfl
 have eR:((List.range XP.length).map (pM XC XC.length XP)).map Ag.Ad=rs':=by
  apply List.ext_getElem (by simp[lR])
  intro q h1 h2
  have hq:q<XP.length:=by simpa using h1
  rw[List.getElem_map,List.getElem_map,List.getElem_range,←Di h2,mR.lo q hq,gR,SA rfl];rfl
 have eQ:((List.range XP.length).map (pM XC XC.length XP)).map Ag.Ai=qs':=by
  apply List.ext_getElem (by simp[lQ])
  intro q h1 h2
  have hq:q<XP.length:=by simpa using h1
  rw[List.getElem_map,List.getElem_map,List.getElem_range,←Di h2,mQ.lo q hq,gQ,SA rfl];rfl
 have eH:BU (NC (bP XC XC.length XP XP.length)) XH.length XH=(List.range XH.length).map (NC (bP XC XC.length XP XP.length)):=SA rfl
 have eCv:XC.flatMap (fun x:Sl Af=>[Sl.val x])=ws'.flatMap (fun x:Sl Af=>[Sl.val x]):=by
  have:XC.map Sl.val=ws'.map Sl.val:=by
   apply List.ext_getElem (by simp[lW])
   intro q h1 h2
   have hq:q<XC.length:=by simpa using h1
   have hq2:q<ws'.length:=by simpa using h2
   rw[List.getElem_map,List.getElem_map,←Di hq,←Di hq2,mW.lo q hq]
   show Value.slice _ _ _=Value.slice _ (BU _ _ _).length _
   rw[Dw (Nat.le_refl _)]
  rw[Zi,Zi,this]
 have ePv:XP.flatMap Ag.cells=((List.range XP.length).map (pM XC XC.length XP)).flatMap Ag.cells:=by
  have hx:XP=(List.range XP.length).map (gd XP):=by
   apply List.ext_getElem (by simp)
   intro q h1 h2
   rw[List.getElem_map,List.getElem_range,Di h1]
  conv=>lhs;rw[hx]
  rw[List.flatMap_map,List.flatMap_map]
  congr 1
  funext q
  show _=[_,_,_,_,_,_,Value.slice _ ((List.range _).map _).length _,Value.slice _ ((List.range _).map _).length _]
  rw[List.length_map,List.length_range,List.length_map,List.length_range];rfl
 have eS:Qe n0 aC cC XC ws' aP cP XP rs' qs' aH cH (BU (NC (bP XC XC.length XP XP.length)) XH.length XH)=Jd n0 D:=by
  have a1:Au n0 43 1 (fun x:Sl Af=>[Sl.val x]) (.slice aC XC.length cC) XC=Au n0 43 1 (fun x:Sl Af=>[Sl.val x]) (.slice aC ws'.length cC) ws':=by unfold Au;rw[lW,eCv]
  have a3:Au n0 47 8 Ag.cells (.slice aP XP.length cP) XP=Au n0 47 8 Ag.cells (.slice aP ((List.range XP.length).map (pM XC XC.length XP)).length cP) ((List.range XP.length).map (pM XC XC.length XP)):=by unfold Au;rw[←ePv];simp only[List.length_map,List.length_range]
  show[_,_,_,_,_,_]=[Au n0 43 1 (fun x:Sl Af=>[Sl.val x]) (.slice aC ((List.range XC.length).map (wM XC)).length cC) ((List.range XC.length).map (wM XC)),Aq n0 51 3 Af.cells ((List.range XC.length).map (wM XC)),Au n0 47 8 Ag.cells (.slice aP ((List.range XP.length).map (pM XC XC.length XP)).length cP) ((List.range XP.length).map (pM XC XC.length XP)),Aq n0 53 4 Ak.cells (((List.range XP.length).map (pM XC XC.length XP)).map Ag.Ad),Aq n0 55 2 Ap.cells (((List.range XP.length).map (pM XC XC.length XP)).map Ag.Ai),Au n0 57 3 Ar.cells (.slice aH ((List.range XH.length).map (NC (bP XC XC.length XP XP.length))).length cH) ((List.range XH.length).map (NC (bP XC XC.length XP XP.length)))]
  rw[eC,eR,eQ,←a1,←a3,eH]
 have hs':Sat ⟨w,w'.heap.size,Jd n0 D⟩ w':=by rw[←eS];exact hs
 refine⟨rfl,⟨D, ?_,mkD_num hN.nums ⟨hN.ps⟩ hb, ?_,hs', ?_⟩,hkp⟩
 ·show Am.arr (Kq _ _ _ _ _ _ _ _ _ _ _ _ _ _ _)=_
  rw[Yy]
 ·refine⟨by simpa[D,Kq]using b1,by simpa[D,Kq]using b2,by simpa[D,Kq]using b3,fun i hi => ?_,fun i hi => ?_,fun i hi => ?_⟩
  ·have hi':i<XC.length:=by simpa[D,Kq]using hi
   show(gd ((List.range XC.length).map (wM XC)) i).xs.length≤255
   rw[JR hi'];simpa[wM]using bw i hi'
  ·have hi':i<XP.length:=by simpa[D,Kq]using hi
   show(gd ((List.range XP.length).map (pM XC XC.length XP)) i).Ad.xs.length≤255
   rw[JR hi'];simpa[pM,rM]using br i hi'
  have hi':i<XP.length:=by simpa[D,Kq]using hi
  show(gd ((List.range XP.length).map (pM XC XC.length XP)) i).Ai.xs.length≤255
  rw[JR hi'];simpa[pM,qM]using bq i hi'
 rw[←eS]
 funext b
 apply propext
 refine blocks6 Iff.rfl (PL lW (fun q hq=>by rw[mW.lo q hq])) Iff.rfl (PL (by rw[lR,List.length_map]) (fun q hq => ?_)) (PL (by rw[lQ,List.length_map]) (fun q hq => ?_)) (by cases aH <;> exact Iff.rfl)
 ·rw[List.length_map]at hq;rw[mR.lo q hq]
 rw[List.length_map]at hq;rw[mQ.lo q hq]
theorem grown_conf(w:World)(d:Am)(n0:Nat)(w0:World)(hF:WB d)(hN:Nw d)(hO:Sat ⟨w0,w.heap.size,Jd n0 d⟩ w)(hn0:n0≤w.heap.size):Calls Try.prog 37 #[.agg (Am.arr d)] w fun e w'=>e = .returned (.bool true)∧AV (EO (Jd n0 d)) w w':=by
 obtain⟨f1,f2,f3,f4,⟨aC,cC,XC⟩,⟨aP,cP,XP⟩,⟨aH,cH,XH⟩⟩:=d
 exact grown_calls w f1 f2 f3 f4 aC cC XC aP cP XP aH cH XH n0 w0 hN hF hO _ rfl hn0
section
variable {c:Am}{M:RM}
theorem YG{n m:Nat}{W w0:World}(hN:Nw c)(hLim:Lim c)(h:NP c M)(hs:Sat ⟨w0,m,U7 n c M⟩ W):Am.ok (New n) W (mkC c M)∧I7.ok (New n) W (YI c M):=by
 have r0:W.ownsRow n 57 3 (.slice M.aH (wid GK c.Ah.xs).length M.cH) (wid GK c.Ah.xs).length ((wid GK c.Ah.xs).flatMap Ar.cells):=hs.at (i:=0) rfl
 have r1:W.ownsRow n 43 1 (.slice M.aC (M.cs++M.sp).length M.cC) (M.cs++M.sp).length ((M.cs++M.sp).flatMap (fun x:Sl Af=>[Sl.val x])):=hs.at (i:=1) rfl
 have r2:W.ownsRow n 43 1 (.slice M.aW M.ws.length M.cW) M.ws.length (M.ws.flatMap (fun x:Sl Af=>[Sl.val x])):=hs.at (i:=2) rfl
 have r3:(Aq n 51 3 Af.cells M.ws).holds W:=hs.at (i:=3) rfl
 have r4:(Aq n 51 3 Af.cells M.sp).holds W:=hs.at (i:=4) rfl
 have r5:W.ownsRow n 47 8 (.slice M.aP (M.ps++BH Fa 12).length M.cP) (M.ps++BH Fa 12).length ((M.ps++BH Fa 12).flatMap Ag.cells):=hs.at (i:=5) rfl
 have r6:W.ownsRow n 44 1 (.slice M.aR M.rs.length M.cR) M.rs.length (M.rs.flatMap (fun x:Sl Ak=>[Sl.val x])):=hs.at (i:=6) rfl
 have r7:(Aq n 53 4 Ak.cells M.rs).holds W:=hs.at (i:=7) rfl
 have r8:W.ownsRow n 45 1 (.slice M.aQ M.qs.length M.cQ) M.qs.length (M.qs.flatMap (fun x:Sl Ap=>[Sl.val x])):=hs.at (i:=8) rfl
 have r9:(Aq n 55 2 Ap.cells M.qs).holds W:=hs.at (i:=9) rfl
 have b1:=hLim.cl
 have b2:=hLim.pl
 have b3:=hLim.hl
 have l1:=h.YZ.l1
 have l2:=h.YZ.l2
 have l3:=h.sp.1
 have l4:=h.prt.l1
 have l5:=h.prt.l2
 have l6:=h.prt.l3
 have l0:(wid GK c.Ah.xs).length=c.Ah.xs.length+12:=Gq
 have lc:(M.cs++M.sp).length=c.Aj.xs.length+12:=by rw[List.length_append];omega
 have lp:(M.ps++BH Fa 12).length=c.Aa.xs.length+12:=by rw[List.length_append,D8];omega
 have s0:BD Ar.cells 3 (New n) W ⟨M.aH,M.cH,wid GK c.Ah.xs⟩:=Nq (fun _=>rfl) r0 (by omega)
 have s1:BD (fun x:Sl Af=>[Sl.val x]) 1 (New n) W ⟨M.aC,M.cC,M.cs++M.sp⟩:=Nq (fun _=>rfl) r1 (by omega)
 have s2:BD (fun x:Sl Af=>[Sl.val x]) 1 (New n) W ⟨M.aW,M.cW,M.ws⟩:=Nq (fun _=>rfl) r2 (by omega)
 have s5:BD Ag.cells 8 (New n) W ⟨M.aP,M.cP,M.ps++BH Fa 12⟩:=Nq (fun _=>rfl) r5 (by omega)
 have s6:BD (fun x:Sl Ak=>[Sl.val x]) 1 (New n) W ⟨M.aR,M.cR,M.rs⟩:=Nq (fun _=>rfl) r6 (by omega)
 have s8:BD (fun x:Sl Ap=>[Sl.val x]) 1 (New n) W ⟨M.aQ,M.cQ,M.qs⟩:=Nq (fun _=>rfl) r8 (by omega)
 have w3:∀ i,i<c.Aj.xs.length→BD Af.cells 3 (New n) W (gd M.ws i):=fun i hi=>La (cells:=Af.cells) (hs:=M.ws) (fun _=>rfl) r3 (Nr (by omega)) (by rw[room_wl h hi];have:=hLim.ws i hi;omega)
 have w4:∀ i,i<M.sp.length→BD Af.cells 3 (New n) W (gd M.sp i):=fun i hi=>La (cells:=Af.cells) (hs:=M.sp) (fun _=>rfl) r4 (Nr hi) (by rw[h.sp.2 i (by omega)];show 1≤_;omega)
 have w7:∀ i,i<c.Aa.xs.length→BD Ak.cells 4 (New n) W (gd M.rs i):=fun i hi=>La (cells:=Ak.cells) (hs:=M.rs) (fun _=>rfl) r7 (Nr (by omega)) (by rw[room_rl h hi];have:=hLim.rs i hi;omega)
 have w9:∀ i,i<c.Aa.xs.length→BD Ap.cells 2 (New n) W (gd M.qs i):=fun i hi=>La (cells:=Ap.cells) (hs:=M.qs) (fun _=>rfl) r9 (Nr (by omega)) (by rw[room_ql h hi];have:=hLim.qs i hi;omega)
 have v3:∀ i,i<c.Aj.xs.length→Dc Af.cells 3 Af.ok (New n) W (gd M.cs i):=fun i hi=>by
  rw[h.YZ.c1 i hi]
  refine⟨?_,fun k hk=>hN.ws i hi k hk _ _⟩
  have e:=w3 i hi
  rw[show gd M.ws i=⟨(gd M.ws i).a,(gd M.ws i).cap,(gd M.ws i).xs⟩from rfl,h.YZ.w1 i hi]at e
  have:=MR (n:=(gd c.Aj.xs i).xs.length) e
  rw[UH]at this;exact this
 have vP:∀ i,i<c.Aa.xs.length→Ag.ok (New n) W (gd M.ps i):=fun i hi=>by
  rw[h.prt.p1 i hi]
  obtain⟨a1,a2,a3,a4,a5,a6⟩:=hN.ps i hi
  refine⟨a1,a2,a3,a4,a5,a6,⟨?_,fun k hk=>hN.rs i hi k hk _ _⟩,⟨?_,fun k hk=>hN.qs i hi k hk _ _⟩⟩
  ·have e:=w7 i hi
   rw[show gd M.rs i=⟨(gd M.rs i).a,(gd M.rs i).cap,(gd M.rs i).xs⟩from rfl,h.prt.r1 i hi]at e
   have:=MR (n:=(gd c.Aa.xs i).Ad.xs.length) e
   rw[UH]at this;exact this
  have e:=w9 i hi
  rw[show gd M.qs i=⟨(gd M.qs i).a,(gd M.qs i).cap,(gd M.qs i).xs⟩from rfl,h.prt.q1 i hi]at e
  have:=MR (n:=(gd c.Aa.xs i).Ai.xs.length) e
  rw[UH]at this;exact this
 have z0:FV .i64 0:=U8 (by decide) (by decide)
 have zm:∀ k:Nat,k<12→FV .i64 (-70 - (k:Int)):=fun k hk=>U8 (by omega) (by omega)
 refine⟨⟨hN.nums.1,hN.nums.2.1,hN.nums.2.2.1,hN.nums.2.2.2,⟨?_,fun i hi=>v3 i (by rw[←l1];exact hi)⟩,⟨?_,fun i hi=>vP i (by rw[←l4];exact hi)⟩,⟨?_,fun i hi=>hN.hs i hi _ _⟩⟩,⟨⟨s1,fun i hi => ?_⟩,⟨s2,fun i hi => ?_⟩,⟨s5,fun i hi => ?_⟩,⟨s6,fun i hi => ?_⟩,⟨s8,fun i hi => ?_⟩,⟨s0,Xj (p:=fun x=>Ar.ok (New n) W x) (fun k hk=>hN.hs k hk _ _) (fun k hk=>⟨zm k hk,z0,z0⟩)⟩⟩⟩
 ·have:=MR (n:=M.cs.length) s1
  rw[List.take_left]at this;exact this
 ·have:=MR (n:=M.ps.length) s5
  rw[List.take_left]at this;exact this
 ·have:=MR (n:=c.Ah.xs.length) s0
  rw[UH]at this;exact this
 ·have hi':i<c.Aj.xs.length+12:=by rw[←lc];exact hi
  show Dc Af.cells 3 Af.ok (New n) W (gd (M.cs++M.sp) i)
  by_cases e:i<c.Aj.xs.length
  ·rw[Wi (by omega)];exact v3 i e
  rw[SE (k:=i - c.Aj.xs.length) (by omega) (by omega)]
  refine⟨w4 _ (by omega),fun k hk => ?_⟩
  have e2:=h.sp.2 (i - c.Aj.xs.length) (by omega)
  rw[e2]at hk ⊢
  have hk0:k=0:=by simp at hk;omega
  subst hk0
  exact⟨zm _ (by omega),z0,z0⟩
 ·have hi':i<c.Aj.xs.length:=by rw[←l2];exact hi
  show Dc Af.cells 3 Af.ok (New n) W (gd M.ws i)
  refine⟨w3 i hi', ?_⟩
  rw[h.YZ.w1 i hi']
  exact Xj (p:=fun x=>Af.ok (New n) W x) (fun k hk=>hN.ws i hi' k hk _ _) (fun k hk=>⟨zm k hk,z0,z0⟩)
 ·have hi':i<c.Aa.xs.length+12:=by rw[←lp];exact hi
  show Ag.ok (New n) W (gd (M.ps++BH Fa 12) i)
  by_cases e:i<c.Aa.xs.length
  ·rw[Wi (by omega)];exact vP i e
  rw[SE (k:=i - c.Aa.xs.length) (by omega) (by rw[D8];omega),gd_mks (by omega)]
  exact⟨Nat.zero_le _,zm _ (by omega),z0,z0,z0,z0,RI,RI⟩
 ·have hi':i<c.Aa.xs.length:=by rw[←l5];exact hi
  show Dc Ak.cells 4 Ak.ok (New n) W (gd M.rs i)
  refine⟨w7 i hi', ?_⟩
  rw[h.prt.r1 i hi']
  exact Xj (p:=fun x=>Ak.ok (New n) W x) (fun k hk=>hN.rs i hi' k hk _ _) (fun k hk=>⟨zm k hk,z0,z0,z0⟩)
 have hi':i<c.Aa.xs.length:=by rw[←l6];exact hi
 show Dc Ap.cells 2 Ap.ok (New n) W (gd M.qs i)
 refine⟨w9 i hi', ?_⟩
 rw[h.prt.q1 i hi']
 exact Xj (p:=fun x=>Ap.ok (New n) W x) (fun k hk=>hN.qs i hi' k hk _ _) (fun k hk=>⟨zm k hk,Ac⟩)
theorem room_new{w0 W:World}{m n:Nat}(h:Sat ⟨w0,m,U7 n c M⟩ W):∀ x∈U7 n c M,∀ b,x.F b→n≤b:=by
 intro x hx b hb
 have hh:=h.all x hx
 simp only[U7,List.mem_cons,List.not_mem_nil,or_false]at hx
 rcases hx with rfl | rfl | rfl | rfl | rfl | rfl | rfl | rfl | rfl | rfl
 ·exact MI hh b hb
 ·exact MI hh b hb
 ·exact MI hh b hb
 ·exact Ou hh b hb
 ·exact Ou hh b hb
 ·exact MI hh b hb
 ·exact MI hh b hb
 ·exact Ou hh b hb
 ·exact MI hh b hb
 exact Ou hh b hb
end
theorem kept_room{n m:Nat}{W w0:World}{c:Am}{M:RM}(hN:Nw c)(hl:Lim c)(hR:NP c M)(hs:Sat ⟨w0,m,U7 n c M⟩ W)(d:Am)(hd:Am.ok Any W d)(hx:strip d=strip c):Calls Try.prog 9 #[.agg (Am.arr (mkC c M)),.agg (I7.arr (YI c M)),.agg (Am.arr d)] W fun e w'=>e = .returned (.bool true)∧AV (fun _=>False) W w':=by
 have hk:=YG hN hl hR hs
 exact kept_calls W d _ _ (hk.1.ext (Ext.refl _ _) (fun _ _=>trivial)) (hk.2.ext (Ext.refl _ _) (fun _ _=>trivial)) hd (by rw[←mkR_same hx];exact room_is (room_same hx hR)) ((Xf hR).trans hx.symm)
theorem encIs_dec{w:World}{c:Am}{xs:List Int}{er:Int}(hc:Am.ok Any w c)(h:SS c xs er)(he:er=0):I4 xs = .ok (Hz c):=by
 rcases h with⟨h1,h2,rfl, -⟩ | ⟨h1,h2,rfl,rfl⟩ | ⟨h1,rfl,rfl⟩
 ·have hI:=P7 hc
  have hok:=(WU hI).1 h1
  exact(VU (Zz h1)).2 ⟨h2,hok,Y5 hI hok⟩
 ·cases he
 cases he
theorem KG{w:World}{n0 cap n:Nat}{a:Option Addr}{xs:List Int}(h:(Au n0 5 1 Bh (.slice a n cap) xs).holds w)(hn:xs.length=n)(hl:xs.length≤1000000000):BD Bh 1 Any w ⟨a,cap,xs⟩:=by subst hn;exact Jp (fun _=>rfl) h (by omega) (fun _ _=>trivial)
theorem V5{w:World}{n0 cap n:Nat}{a:Option Addr}{xs:List Int}(h:(Au n0 5 1 Bh (.slice a (n+70) cap) (J6 xs)).holds w)(hn:xs.length=n)(hl:xs.length≤1000000):BD Bh 1 Any w ⟨a,cap - 0,xs⟩:=by
 have h1:=KG h (by rw[LG,hn]) (by rw[LG];omega)
 have h2:=MR (n:=xs.length) h1
 rw[Ze]at h2;exact h2
theorem V3(w:World)(a:Option Addr)(cap n:Nat)(xs:List Int)(hn:xs.length=n)(hb:BD Bh 1 Any w ⟨a,cap,xs⟩)(hll:xs.length≤1000000000):Calls Try.prog 32 #[.slice a n cap] w fun e w'=>∃ a2 cap2,e = .returned (.slice a2 n (cap2 - 0))∧(Au w.heap.size 5 1 Bh (.slice a2 (n+70) cap2) (J6 xs)).holds w'∧AV (fun _=>False) w w':=by
 subst hn
 exact bytes_calls w ⟨a,cap,xs⟩ hb hll
theorem spoil_full(w w0:World)(n0 cap n:Nat)(a:Option Addr)(xs:List Int)(mark:Int)(hmk:0≤mark∧mark<256)(hn:xs.length=n)(h:Sat ⟨w0,w.heap.size,[Au n0 5 1 Bh (.slice a (n+70) cap) (J6 xs)]⟩ w)(hn0:n0≤w.heap.size)(hl:xs.length≤1000000):Calls Try.prog 35 #[.slice a n (cap - 0),.int .u8 mark] w fun e w'=>e = .returned (.tuple #[])∧BD Bh 1 (EO [Au n0 5 1 Bh (.slice a (n+70) cap) (J6 xs)]) w' ⟨a,cap,spoilt mark n⟩∧AV (EO [Au n0 5 1 Bh (.slice a (n+70) cap) (J6 xs)]) w w':=by
 subst hn
 have h':Sat ⟨w0,w.heap.size,[Au n0 5 1 Bh (.slice a (J6 xs).length cap) (J6 xs)]⟩ w:=by rw[LG];exact h
 have h2:=sat_cut (n:=xs.length) h' (by rw[LG];omega)
 rw[Ze]at h2
 have:=WE w a cap n0 xs mark hmk w0 h2 _ rfl hn0 (by omega)
 rw[cut_blocks (N:=xs.length+70) (ys:=J6 xs)]at this
 exact this
theorem ZO{n cC cP cH nC nP:Nat}{aC aP aH:Option Addr}{XC ws ws':List (Sl Af)}{XP:List Ag}{rs rs':List (Sl Ak)}{qs qs':List (Sl Ap)}{XH XH':List Ar}{m1:Nat→Nat→Af}{m2:Nat→Nat→Ak}{m3:Nat→Nat→Ap}{b1 b2 b3:Nat→Nat}{h1:Nat→Sl Af}{h2:Nat→Sl Ak}{h3:Nat→Sl Ap}(mW:Jz h1 m1 b1 nC ws ws')(mR:Jz h2 m2 b2 nP rs rs')(mQ:Jz h3 m3 b3 nP qs qs'){b:Nat}:EO (Qe n aC cC XC ws' aP cP XP rs' qs' aH cH XH') b↔EO (Qe n aC cC XC ws aP cP XP rs qs aH cH XH) b:=by
 have key:∀ {α:Type} {hd:Nat→Sl α} {mk:Nat→Nat→α} {base:Nat→Nat} {i:Nat} {u v:List (Sl α)},Jz hd mk base i u v→∀ q,q<u.length→(gd v q).a=(gd u q).a:=fun{α hd mk base i u v} m q hq=>by
  by_cases e:q<i
  ·rw[m.lo q e]
  rw[m.hi q (by omega) hq]
 exact blocks6 Iff.rfl (PL mW.len (key mW)) Iff.rfl (PL mR.len (key mR)) (PL mQ.len (key mQ)) (by cases aH <;> exact Iff.rfl)
section
variable (w10:World)(aC:Option Addr)(cs:List (Sl Af))(sp:List (Sl Af))(cC:Nat)(aW:Option Addr)(ws:List (Sl Af))(cW:Nat)(aP:Option Addr)(ps:List (Ag))(cP:Nat)(aR:Option Addr)(rs:List (Sl Ak))(cR:Nat)(aQ:Option Addr)(qs:List (Sl Ap))(cQ:Nat)(aH:Option Addr)(c:Am)(cH:Nat)(w41:World)(dw:Am)(w51:World)(dx:Am)(w53:World)(dy:Am)(w8:World)(z:Nat)(w47 w59:World)(ax62:Option Addr)(E:List Int)(cp63:Nat)(w45:World)(ax48:Option Addr)(cp49:Nat)(ax13:Option Addr)(cp14:Nat)(w23:World)(ax28:Option Addr)(E2:List Int)(cp29:Nat)(w27:World)(ax34:Option Addr)(cp35:Nat)(w2:World)(ax5:Option Addr)(cp6:Nat)(wsn:List (Sl Af))(rsn:List (Sl Ak))(qsn:List (Sl Ap))
abbrev Qn:=bk (w10.heap.size+1) #[.slice aC ((cs++sp).length) cC,.slice aW ws.length cW,.slice aP ((ps++BH Fa 12).length) cP,.slice aR rs.length cR,.slice aQ qs.length cQ,.slice aH ((wid GK c.Ah.xs).length) cH] 36
abbrev Qu:Ch:= .blk w10.heap.size (.cells #[i6 c.Frames,i6 c.AX,i6 c.Kernel,i6 c.Room,.slice aC cs.length (cC - 0),.slice aP ps.length (cP - 0),.slice aH c.Ah.xs.length (cH - 0)] 26 (0,0)) true
abbrev Ti:Ch:= .blk w41.heap.size (.cells (Am.arr dw) 26 (0,0)) true
abbrev UX:Ch:= .blk w51.heap.size (.cells (Am.arr dx) 26 (0,0)) true
abbrev XN:Ch:= .blk w53.heap.size (.cells (Am.arr dy) 26 (0,0)) true
abbrev Pm:Ch:= .blk w8.heap.size (.cells (Am.arr dw) 26 (0,0)) true
abbrev NJ:=bk z (Am.arr c) 26
abbrev Rn:=Au (w8.heap.size+1) 57 3 Ar.cells (.slice aH ((BU (NC (1000+sm (fun q=>(gd (cs++sp) q).xs.length) cs.length+sm (fun q=>(gd (ps++BH Fa 12) q).Ad.xs.length+(gd (ps++BH Fa 12) q).Ai.xs.length) ps.length)) c.Ah.xs.length (wid GK c.Ah.xs)).length) cH) (BU (NC (1000+sm (fun q=>(gd (cs++sp) q).xs.length) cs.length+sm (fun q=>(gd (ps++BH Fa 12) q).Ad.xs.length+(gd (ps++BH Fa 12) q).Ai.xs.length) ps.length)) c.Ah.xs.length (wid GK c.Ah.xs))
abbrev Xq:=Au w47.heap.size 47 8 Ag.cells (.slice dx.Aa.a dx.Aa.xs.length dx.Aa.cap) dx.Aa.xs
abbrev XU:=Au w47.heap.size 43 1 (fun x:Sl Af=>[Sl.val x]) (.slice dx.Aj.a dx.Aj.xs.length dx.Aj.cap) dx.Aj.xs
abbrev VY:=Au w47.heap.size 57 3 Ar.cells (.slice dx.Ah.a dx.Ah.xs.length dx.Ah.cap) dx.Ah.xs
abbrev OB:=Au (w8.heap.size+1) 43 1 (fun x:Sl Af=>[Sl.val x]) (.slice aC ((cs++sp).length) cC) (cs++sp)
abbrev O5:=Au (w8.heap.size+1) 47 8 Ag.cells (.slice aP ((ps++BH Fa 12).length) cP) (ps++BH Fa 12)
abbrev Y2:=Au (w59.heap.size+1) 5 1 Bh (.slice ax62 (E.length+70) cp63) (J6 (spoilt 9 E.length))
abbrev Ov:=Au (w8.heap.size+1) 43 1 (fun x:Sl Af=>[Sl.val x]) (.slice aW ws.length cW) ws
abbrev Oy:=Au (w8.heap.size+1) 44 1 (fun x:Sl Ak=>[Sl.val x]) (.slice aR rs.length cR) rs
abbrev O1:=Au (w8.heap.size+1) 45 1 (fun x:Sl Ap=>[Sl.val x]) (.slice aQ qs.length cQ) qs
abbrev Wn:=Aq w47.heap.size 53 4 Ak.cells (dx.Aa.xs.map Ag.Ad)
abbrev VO:=Aq w47.heap.size 55 2 Ap.cells (dx.Aa.xs.map Ag.Ai)
abbrev QN:=Au w45.heap.size 5 1 Bh (.slice ax48 (E.length+70) cp49) (J6 E)
abbrev O9:=Au (w10.heap.size+2) 5 1 Bh (.slice ax13 E.length cp14) E
abbrev OE:=Au w23.heap.size 5 1 Bh (.slice ax28 E2.length cp29) E2
abbrev OO:=Au w27.heap.size 5 1 Bh (.slice ax34 E2.length cp35) E2
abbrev MG:=Au w2.heap.size 5 1 Bh (.slice ax5 E.length cp6) E
abbrev We:=Aq w47.heap.size 51 3 Af.cells dx.Aj.xs
abbrev PG:=Aq (w8.heap.size+1) 51 3 Af.cells wsn
abbrev PM:=Aq (w8.heap.size+1) 53 4 Ak.cells rsn
abbrev OQ:=Aq (w8.heap.size+1) 51 3 Af.cells sp
abbrev PN:=Aq (w8.heap.size+1) 55 2 Ap.cells qsn
abbrev Kv:=(11,pt w53.heap.size)
abbrev Ik:=(5,pt w41.heap.size)
abbrev Lu:=(8,pt w51.heap.size)
abbrev Oq:=(5,pt w8.heap.size)
end
theorem keeps_calls(w:World)(c:Am)(hc:Am.ok Any w c):Calls Try.prog 3 #[.agg (Am.arr c)] w fun e w'=>e = .returned (.bool true)∧AV (fun _=>False) w w':=by
 obtain⟨z,hz⟩:∃ z,z=w.heap.size:=⟨_,rfl⟩
 refine Bc (args:=[.agg (Am.arr c)]) 72 ⟨w,z,[(A8 w)]⟩ Try.func3 rfl (by kernel_rfl) (by kernel_rfl) (EW hz) ?_
 have hpl:=hc.Aa.1.len;have hpc:=hc.Aj.1.len
 refine Bj [0] [(0,.agg (Am.arr c))] ?_
 refine q_c 7 1 [] [[o0,o0],[(an 7 1)]] [Qb z,Qb z,Qb z,Qb z,Qb z,Qb z,Qb z] [(1,pt z),(14,.agg (Am.arr c))] ⟨w,z+1,[(A8 w),(NJ c z)]⟩ rfl ⟨rfl,rfl,rfl,rfl,rfl,rfl,rfl,Ac⟩ ?_
 refine l_call [] [] 4 #[.agg (Am.arr c)] (some 15) Ac ?_
 intro w1 hw1
 refine(vast_calls w1 c (hc.ext (hw1.ext rfl) (fun _ h=>h))).mono ?_
 rintro e w2 ⟨bV,rfl,hV,hkw2⟩
 have hnw2:z+1≤w2.heap.size:=AB hw1 hkw2
 cases bV
 ·obtain⟨hLim,hSum⟩:=hV rfl;have hl1:=hLim.cl;have hl2:=hLim.pl;have hl3:=hLim.hl
  refine⟨_,_,rfl,hw1.keeps hkw2, ?_⟩
  refine AC 7 1 [0] [[],[(an 7 1)]] [Qb z,Qb z,Qb z,Qb z,Qb z,Qb z,Qb z] [(1,pt z),(17,.agg (Am.arr c))] rfl ⟨rfl,rfl,rfl,rfl,rfl,rfl,rfl,Ac⟩ ?_
  refine l_call [] [] 5 #[.agg (Am.arr c)] (some 18) Ac ?_
  intro w3 hw3
  refine(WG w3 c (hc.ext (hw3.ext rfl) (fun _ h=>h))).mono ?_
  rintro e w4 ⟨E,ax5,cp6,er,hEIw4,rfl,how4,hkw4⟩
  have hnw4:w2.heap.size≤w4.heap.size:=AB hw3 hkw4
  rw[hw3.size]at how4
  obtain⟨hBE,hLE⟩:=YK hEIw4
  refine⟨_,_,rfl,hw3.Le hkw4 (MG E w2 ax5 cp6) how4 (D9 _ _ _ _ _ _) (fun b hb=>World.ownsRow.lt how4 b hb), ?_⟩
  refine AC 4 1 [] [[o0,o0,o0,o0,o0],[(an 7 1)]] [Qb z,Qb z,Qb z,Qb z,Qb z,Qb z,Qb z] [(1,pt z),(3,.slice ax5 E.length cp6),(4,i6 er),(21,.agg (Am.arr c))] rfl ⟨rfl,rfl,rfl,rfl,rfl,rfl,rfl,Ac⟩ ?_
  refine l_call [] [] 6 #[.agg (Am.arr c)] (some 22) Ac ?_
  intro w7 hw7
  refine(VC w7 c (hc.ext (hw7.ext rfl) (fun _ h=>h)) hLim).mono ?_
  rintro e w8 ⟨dw,rfl,hsw,hOw,hkw8⟩
  have hnw8:w4.heap.size≤w8.heap.size:=AB hw7 hkw8
  have how:=Xz hc hsw hOw;rw[hw7.size]at how
  refine⟨_,_,rfl,hw7.Tu hkw8, ?_⟩
  refine Ey 4 1 [] [[o0,(an 7 4)],[(an 7 1)]] [Qb w8.heap.size,Qb w8.heap.size,Qb w8.heap.size,Qb w8.heap.size,Qb w8.heap.size,Qb w8.heap.size,Qb w8.heap.size,Qb z,Qb z,Qb z,Qb z,Qb z,Qb z,Qb z] [(3,.slice ax5 E.length cp6),(4,i6 er),(Oq w8),(24,.agg (Am.arr c))] ⟨w,w8.heap.size+1,[(A8 w),(NJ c z),(MG E w2 ax5 cp6),(mid w4.heap.size w8),(Pm dw w8)]⟩ rfl ⟨rfl,rfl,rfl,rfl,rfl,rfl,rfl,rfl,rfl,rfl,rfl,rfl,rfl,rfl,Ac⟩ ?_
  refine l_call [] [] 7 #[.agg (Am.arr c)] (some 25) Ac ?_
  intro w9 hw9
  refine(roomed_calls w9 c (hc.ext (hw9.ext rfl) (fun _ h=>h)) hLim).mono ?_
  rintro e w10 ⟨⟨aC,cC,cs,sp,aW,cW,ws,aP,cP,ps,aR,cR,rs,aQ,cQ,qs,aH,cH⟩,rfl,hR,hO,hkw10⟩
  rw[hw9.size]at hO;obtain⟨w0O,hO⟩:=hO;obtain⟨hcor,hsp,hprt⟩:=hR
  replace hcor:VV c c.Aj.xs.length cs ws:=hcor;replace hsp:Yn 12 sp:=hsp;replace hprt:Wx c c.Aa.xs.length ps rs qs:=hprt
  have hnw10:w8.heap.size+1≤w10.heap.size:=AB hw9 hkw10
  have hq1:=hcor.l1;have hq2:=hcor.l2;have hq3:=hsp.1;have hq4:=hprt.l1;have hq5:=hprt.l2;have hq6:=hprt.l3;have hnum:=num_of hc
  refine⟨_,_,rfl,hw9.keepsO hkw10 hO (room_new hO), ?_⟩
  refine Ey 4 1 [] [[o0,o0,o0,o0,o0,(an 7 15),(an 6 16)],[(an 7 15)]] [Qb w10.heap.size,Qb w10.heap.size,Qb w10.heap.size,Qb w10.heap.size,Qb w10.heap.size,Qb w10.heap.size,Qb w10.heap.size,Qb (w10.heap.size+1),Qb (w10.heap.size+1),Qb (w10.heap.size+1),Qb (w10.heap.size+1),Qb (w10.heap.size+1),Qb (w10.heap.size+1),Qb w10.heap.size,Qb w10.heap.size,Qb w10.heap.size,Qb w10.heap.size,Qb w10.heap.size,Qb w10.heap.size,Qb w10.heap.size] [(3,.slice ax5 E.length cp6),(4,i6 er),(Oq w8),(6,pt w10.heap.size),(7,pt (w10.heap.size+1)),(29,.agg #[i6 c.Frames,i6 c.AX,i6 c.Kernel,i6 c.Room,.slice aC cs.length (cC - 0),.slice aP ps.length (cP - 0),.slice aH c.Ah.xs.length (cH - 0)])] ⟨w,w10.heap.size+2,[(A8 w),(NJ c z),(MG E w2 ax5 cp6),(mid w4.heap.size w8),(Pm dw w8),(Au (w8.heap.size+1) 57 3 Ar.cells (.slice aH ((wid GK c.Ah.xs).length) cH) (wid GK c.Ah.xs)),(OB aC cs sp cC w8),(Ov aW ws cW w8),(Aq (w8.heap.size+1) 51 3 Af.cells ws),(OQ sp w8),(O5 aP ps cP w8),(Oy aR rs cR w8),(Aq (w8.heap.size+1) 53 4 Ak.cells rs),(O1 aQ qs cQ w8),(Aq (w8.heap.size+1) 55 2 Ap.cells qs),(Qu w10 aC cs cC aP ps cP aH c cH),(Qn w10 aC cs sp cC aW ws cW aP ps cP aR rs cR aQ qs cQ aH c cH)]⟩ rfl ⟨rfl,rfl,rfl,rfl,rfl,rfl,rfl,rfl,rfl,rfl,rfl,rfl,rfl,rfl,rfl,rfl,rfl,rfl,rfl,rfl,Ac⟩ ?_
  refine l_call [] [] 8 #[.agg #[i6 c.Frames,i6 c.AX,i6 c.Kernel,i6 c.Room,.slice aC cs.length (cC - 0),.slice aP ps.length (cP - 0),.slice aH c.Ah.xs.length (cH - 0)]] (some 30) Ac ?_
  intro w11 hw11
  have hq15:=hw11.pick [5,6,7,8,9,10,11,12,13,14] rfl rfl
  have hok16:Am.ok Any w11 (mkC c (⟨aC,cC,cs,sp,aW,cW,ws,aP,cP,ps,aR,cR,rs,aQ,cQ,qs,aH,cH⟩:RM)):=(YG hnum hLim ⟨hcor,hsp,hprt⟩ hq15).1.ext (Ext.refl _ _) (fun _ _=>trivial)
  refine(XR w11 (mkC c (⟨aC,cC,cs,sp,aW,cW,ws,aP,cP,ps,aR,cR,rs,aQ,cQ,qs,aH,cH⟩:RM)) hok16).mono ?_
  rintro e w12 ⟨E17,ax13,cp14,er18,hEIw12,rfl,how12,hkw12⟩
  have hnw12:w10.heap.size+2≤w12.heap.size:=AB hw11 hkw12
  rw[hw11.size]at how12
  obtain⟨e1,e2⟩:=ZW hEIw4 (encIs_same hc hok16 (Xf ⟨hcor,hsp,hprt⟩) hEIw12);have e1:=e1.symm;have e2:=e2.symm;subst e1;subst e2
  refine⟨_,_,rfl,hw11.Le hkw12 (O9 w10 E ax13 cp14) how12 (D9 _ _ _ _ _ _) (fun b hb=>World.ownsRow.lt how12 b hb), ?_⟩
  refine AC 5 7 [] [[o0,o0,o0,o0,o0],[o0,o0,oF,o0,(an 7 15),(an 6 16),(an 7 4)]] [NF er er,Qb w10.heap.size,Qb w10.heap.size,Qb w10.heap.size,Qb w10.heap.size,Qb w10.heap.size,Qb w10.heap.size,Qb w10.heap.size,Qb (w10.heap.size+1),Qb (w10.heap.size+1),Qb (w10.heap.size+1),Qb (w10.heap.size+1),Qb (w10.heap.size+1),Qb (w10.heap.size+1),Qb w8.heap.size,Qb w8.heap.size,Qb w8.heap.size,Qb w8.heap.size,Qb w8.heap.size,Qb w8.heap.size,Qb w8.heap.size] [(3,.slice ax5 E.length cp6),(4,i6 er),(Oq w8),(6,pt w10.heap.size),(8,.slice ax13 E.length cp14),(36,.bool false),(37,.agg #[i6 c.Frames,i6 c.AX,i6 c.Kernel,i6 c.Room,.slice aC cs.length (cC - 0),.slice aP ps.length (cP - 0),.slice aH c.Ah.xs.length (cH - 0)]),(38,.agg #[.slice aC ((cs++sp).length) cC,.slice aW ws.length cW,.slice aP ((ps++BH Fa 12).length) cP,.slice aR rs.length cR,.slice aQ qs.length cQ,.slice aH ((wid GK c.Ah.xs).length) cH]),(39,.agg (Am.arr dw))] rfl ⟨nf,rfl,rfl,rfl,rfl,rfl,rfl,rfl,rfl,rfl,rfl,rfl,rfl,rfl,rfl,rfl,rfl,rfl,rfl,rfl,rfl,Ac⟩ ?_
  refine l_call [] [] 9 #[.agg #[i6 c.Frames,i6 c.AX,i6 c.Kernel,i6 c.Room,.slice aC cs.length (cC - 0),.slice aP ps.length (cP - 0),.slice aH c.Ah.xs.length (cH - 0)],.agg #[.slice aC ((cs++sp).length) cC,.slice aW ws.length cW,.slice aP ((ps++BH Fa 12).length) cP,.slice aR rs.length cR,.slice aQ qs.length cQ,.slice aH ((wid GK c.Ah.xs).length) cH],.agg (Am.arr dw)] (some 40) Ac ?_
  intro w19 hw19
  have hq20:=hw19.pick [5,6,7,8,9,10,11,12,13,14] rfl rfl
  refine(kept_room (M:=(⟨aC,cC,cs,sp,aW,cW,ws,aP,cP,ps,aR,cR,rs,aQ,cQ,qs,aH,cH⟩:RM)) hnum hLim ⟨hcor,hsp,hprt⟩ hq20 dw (how.ext (hw19.RJ 3) (fun _ _=>trivial)) hsw).mono ?_
  rintro e w21 ⟨rfl,hkw21⟩
  have hnw21:w12.heap.size≤w21.heap.size:=AB hw19 hkw21
  refine⟨_,_,rfl,hw19.keeps hkw21, ?_⟩
  refine AC 7 1 [0] [[o0,o0],[(an 7 15)]] [Qb w10.heap.size,Qb w10.heap.size,Qb w10.heap.size,Qb w10.heap.size,Qb w10.heap.size,Qb w10.heap.size,Qb w10.heap.size] [(3,.slice ax5 E.length cp6),(4,i6 er),(Oq w8),(6,pt w10.heap.size),(8,.slice ax13 E.length cp14),(43,.agg #[i6 c.Frames,i6 c.AX,i6 c.Kernel,i6 c.Room,.slice aC cs.length (cC - 0),.slice aP ps.length (cP - 0),.slice aH c.Ah.xs.length (cH - 0)])] rfl ⟨rfl,rfl,rfl,rfl,rfl,rfl,rfl,Ac⟩ ?_
  refine l_call [] [] 10 #[.agg #[i6 c.Frames,i6 c.AX,i6 c.Kernel,i6 c.Room,.slice aC cs.length (cC - 0),.slice aP ps.length (cP - 0),.slice aH c.Ah.xs.length (cH - 0)]] (some 44) Ac ?_
  intro w22 hw22
  have hq24:=hw22.pick [6,8,10,12,14,5] rfl rfl
  have gCs:∀ q,q<cs.length→gd (cs++sp) q=gd cs q:=fun q hq=>Wi hq;have gPs:∀ q,q<ps.length→gd (ps++BH Fa 12) q=gd ps q:=fun q hq=>Wi hq
  have hMW:Q9 cs.length (gd (cs++sp)) ws:=⟨by omega,fun q hq=>by rw[gCs q hq,hcor.c1 q (by omega)];refine⟨rfl, ?_⟩;rw[hcor.w1 q (by omega),Gq];exact Nat.le_add_right _ _⟩
  have hMR:Q9 ps.length (fun q=>(gd (ps++BH Fa 12) q).Ad) rs:=⟨by omega,fun q hq=>by rw[gPs q hq,hprt.p1 q (by omega)];refine⟨rfl, ?_⟩;rw[hprt.r1 q (by omega),Gq];exact Nat.le_add_right _ _⟩
  have hMQ:Q9 ps.length (fun q=>(gd (ps++BH Fa 12) q).Ai) qs:=⟨by omega,fun q hq=>by rw[gPs q hq,hprt.p1 q (by omega)];refine⟨rfl, ?_⟩;rw[hprt.q1 q (by omega),Gq];exact Nat.le_add_right _ _⟩
  have hs1:sm (fun q=>(gd (cs++sp) q).xs.length) cs.length=sm (fun q=>(gd c.Aj.xs q).xs.length) c.Aj.xs.length:=by rw[hq1];exact sm_eq (fun q hq=>by rw[gCs q (by omega),hcor.c1 q hq])
  have hs2:sm (fun q=>(gd (ps++BH Fa 12) q).Ad.xs.length+(gd (ps++BH Fa 12) q).Ai.xs.length) ps.length=sm (fun q=>(gd c.Aa.xs q).Ad.xs.length+(gd c.Aa.xs q).Ai.xs.length) c.Aa.xs.length:=by rw[hq4];exact sm_eq (fun q hq=>by rw[gPs q (by omega),hprt.p1 q hq])
  have hbd:1000+sm (fun q=>(gd (cs++sp) q).xs.length) cs.length+sm (fun q=>(gd (ps++BH Fa 12) q).Ad.xs.length+(gd (ps++BH Fa 12) q).Ai.xs.length) ps.length+c.Ah.xs.length≤9000000000000000000:=by rw[hs1,hs2];omega
  skip
  have hq25:=hw22.pick [5,6,7,8,9,10,11,12,13,14] rfl rfl
  have hokR:=(YG (M:=(⟨aC,cC,cs,sp,aW,cW,ws,aP,cP,ps,aR,cR,rs,aQ,cQ,qs,aH,cH⟩:RM)) hnum hLim ⟨hcor,hsp,hprt⟩ hq25).1
  have hcap1:cs.length≤cC - 0:=hokR.Aj.1.le;have hcap2:ps.length≤cP - 0:=hokR.Aa.1.le;have hcap3:c.Ah.xs.length≤cH - 0:=hokR.Ah.1.le
  have hcw:∀ q,q<cs.length→(gd (cs++sp) q).xs.length≤(gd (cs++sp) q).cap:=fun q hq=>by rw[gCs q hq];exact(hokR.Aj.2 q hq).1.le
  have hcr:∀ q,q<ps.length→(gd (ps++BH Fa 12) q).Ad.xs.length≤(gd (ps++BH Fa 12) q).Ad.cap∧(gd (ps++BH Fa 12) q).Ai.xs.length≤(gd (ps++BH Fa 12) q).Ai.cap:=fun q hq=>by rw[gPs q hq];exact⟨(hokR.Aa.2 q hq).Ad.1.le,(hokR.Aa.2 q hq).Ai.1.le⟩
  have hlw:∀ q,q<cs.length→(gd ws q).xs.length≤140737488351232:=fun q hq=>by rw[hcor.w1 q (by omega),Gq];have:=hLim.ws q (by omega);omega
  have hlr:∀ q,q<ps.length→(gd rs q).xs.length≤140737488351232∧(gd qs q).xs.length≤140737488351232:=fun q hq=>by rw[hprt.r1 q (by omega),Gq,hprt.q1 q (by omega),Gq];have:=hLim.rs q (by omega);have:=hLim.qs q (by omega);omega
  have hps:PsNum (ps++BH Fa 12) ps.length:=⟨fun q hq=>by rw[gPs q hq,hprt.p1 q (by omega)];exact hnum.ps q (by omega)⟩
  refine(UW w22 c.Frames c.AX c.Kernel c.Room aC cs.length (cC - 0) cC (cs++sp) ws aP ps.length (cP - 0) cP (ps++BH Fa 12) rs qs aH c.Ah.xs.length (cH - 0) cH (wid GK c.Ah.xs) (w8.heap.size+1) w (by rw[hw22.size];exact hq24) _ rfl (by have:=hw22.size;simp only[]at this;omega) hMW hMR hMQ (by rw[List.length_append];omega) (by rw[List.length_append];omega) (by rw[Gq];omega) (by omega) (by omega) hbd).mono ?_
  rintro e w23 ⟨rfl,⟨wsn,rsn,qsn,mW,mR,mQ,hSM⟩,hkw23⟩
  have hnw23:w21.heap.size≤w23.heap.size:=AB hw22 hkw23
  have hXL:(BU (NC (1000+sm (fun q=>(gd (cs++sp) q).xs.length) cs.length+sm (fun q=>(gd (ps++BH Fa 12) q).Ad.xs.length+(gd (ps++BH Fa 12) q).Ai.xs.length) ps.length)) c.Ah.xs.length (wid GK c.Ah.xs)).length=(wid GK c.Ah.xs).length:=Dw (by rw[Gq];omega)
  refine⟨_,_,rfl,hw22.turn [0,1,2,3,4,7,9,11,13,15,16,17] [6,8,10,12,14,5] rfl rfl rfl (by decide) (fun c hc=>by simp only[List.mem_cons,List.not_mem_nil,or_false]at hc;rcases hc with rfl | rfl | rfl | rfl | rfl | rfl <;> rfl) hkw23 (fun c hc=>⟨hSM.all c hc,hSM.KQ c hc,fun b hb=>⟨hSM.bnd c hc b hb,.inl ((fun b hb=>(ZO mW mR mQ).1 hb) b ⟨c,hc,hb⟩)⟩⟩) hSM.Js, ?_⟩
  have hDN:Nw (Kq c.Frames c.AX c.Kernel c.Room aC cs.length (cC - 0) (cs++sp) aP ps.length (cP - 0) (ps++BH Fa 12) aH c.Ah.xs.length (cH - 0)):=mkD_num hnum.nums hps hbd
  refine AC 4 1 [] [[],[(an 7 9)]] [Qb w10.heap.size,Qb w10.heap.size,Qb w10.heap.size,Qb w10.heap.size,Qb w10.heap.size,Qb w10.heap.size,Qb w10.heap.size] [(3,.slice ax5 E.length cp6),(4,i6 er),(Oq w8),(6,pt w10.heap.size),(8,.slice ax13 E.length cp14),(46,.agg #[i6 c.Frames,i6 c.AX,i6 c.Kernel,i6 c.Room,.slice aC cs.length (cC - 0),.slice aP ps.length (cP - 0),.slice aH c.Ah.xs.length (cH - 0)])] rfl ⟨rfl,rfl,rfl,rfl,rfl,rfl,rfl,Ac⟩ ?_
  refine l_call [] [] 5 #[.agg #[i6 c.Frames,i6 c.AX,i6 c.Kernel,i6 c.Room,.slice aC cs.length (cC - 0),.slice aP ps.length (cP - 0),.slice aH c.Ah.xs.length (cH - 0)]] (some 47) Ac ?_
  intro w26 hw26
  have hq30:=hw26.pick [12,13,14,15,16,17] rfl rfl
  have hok31:Am.ok Any w26 (Kq c.Frames c.AX c.Kernel c.Room aC cs.length (cC - 0) (cs++sp) aP ps.length (cP - 0) (ps++BH Fa 12) aH c.Ah.xs.length (cH - 0)):=mkD_ok (w0:=w) (m:=w23.heap.size) hDN hq30 hMW hMR hMQ mW mR mQ (by rw[List.length_append];omega) (by rw[List.length_append];omega) (by rw[Gq];omega) ⟨hcap1,hcap2,hcap3⟩ hcw hcr ⟨by rw[List.length_append];omega,by rw[List.length_append,D8];omega,by rw[Gq];omega⟩ hlw hlr
  have hgo:=WG w26 (Kq c.Frames c.AX c.Kernel c.Room aC cs.length (cC - 0) (cs++sp) aP ps.length (cP - 0) (ps++BH Fa 12) aH c.Ah.xs.length (cH - 0)) hok31;rw[Yy]at hgo
  refine hgo.mono ?_
  rintro e w27 ⟨E2,ax28,cp29,er2,hEIw27,rfl,how27,hkw27⟩
  have hnw27:w23.heap.size≤w27.heap.size:=AB hw26 hkw27
  rw[hw26.size]at how27
  obtain⟨hBE2,hLE2⟩:=YK hEIw27
  refine⟨_,_,rfl,hw26.Le hkw27 (OE w23 ax28 E2 cp29) how27 (D9 _ _ _ _ _ _) (fun b hb=>World.ownsRow.lt how27 b hb), ?_⟩
  refine AC 4 1 [] [[o0,o0,o0,o0,o0],[(an 7 9)]] [Qb w10.heap.size,Qb w10.heap.size,Qb w10.heap.size,Qb w10.heap.size,Qb w10.heap.size,Qb w10.heap.size,Qb w10.heap.size] [(3,.slice ax5 E.length cp6),(4,i6 er),(Oq w8),(8,.slice ax13 E.length cp14),(10,.slice ax28 E2.length cp29),(11,i6 er2),(51,.agg #[i6 c.Frames,i6 c.AX,i6 c.Kernel,i6 c.Room,.slice aC cs.length (cC - 0),.slice aP ps.length (cP - 0),.slice aH c.Ah.xs.length (cH - 0)])] rfl ⟨rfl,rfl,rfl,rfl,rfl,rfl,rfl,Ac⟩ ?_
  refine l_call [] [] 8 #[.agg #[i6 c.Frames,i6 c.AX,i6 c.Kernel,i6 c.Room,.slice aC cs.length (cC - 0),.slice aP ps.length (cP - 0),.slice aH c.Ah.xs.length (cH - 0)]] (some 52) Ac ?_
  intro w32 hw32
  have hq36:=hw32.pick [12,13,14,15,16,17] rfl rfl
  have hok37:Am.ok Any w32 (Kq c.Frames c.AX c.Kernel c.Room aC cs.length (cC - 0) (cs++sp) aP ps.length (cP - 0) (ps++BH Fa 12) aH c.Ah.xs.length (cH - 0)):=mkD_ok (w0:=w) (m:=w27.heap.size) hDN hq36 hMW hMR hMQ mW mR mQ (by rw[List.length_append];omega) (by rw[List.length_append];omega) (by rw[Gq];omega) ⟨hcap1,hcap2,hcap3⟩ hcw hcr ⟨by rw[List.length_append];omega,by rw[List.length_append,D8];omega,by rw[Gq];omega⟩ hlw hlr
  have hgo:=XR w32 (Kq c.Frames c.AX c.Kernel c.Room aC cs.length (cC - 0) (cs++sp) aP ps.length (cP - 0) (ps++BH Fa 12) aH c.Ah.xs.length (cH - 0)) hok37;rw[Yy]at hgo
  refine hgo.mono ?_
  rintro e w33 ⟨E38,ax34,cp35,er39,hEIw33,rfl,how33,hkw33⟩
  have hnw33:w27.heap.size≤w33.heap.size:=AB hw32 hkw33
  rw[hw32.size]at how33
  obtain⟨e1,e2⟩:=ZW hEIw27 hEIw33;have e1:=e1.symm;have e2:=e2.symm;subst e1;subst e2
  refine⟨_,_,rfl,hw32.Le hkw33 (OO E2 w27 ax34 cp35) how33 (D9 _ _ _ _ _ _) (fun b hb=>World.ownsRow.lt how33 b hb), ?_⟩
  refine AC 5 6 [] [[o0,o0,o0,o0,o0],[o0,o0,oF,o0,o0,o0]] [NF er2 er2] [(3,.slice ax5 E.length cp6),(4,i6 er),(Oq w8),(8,.slice ax13 E.length cp14),(58,.bool false),(59,.slice ax34 E2.length cp35),(60,.slice ax28 E2.length cp29)] rfl ⟨nf,Ac⟩ ?_
  refine l_call [] [] 11 #[.slice ax34 E2.length cp35,.slice ax28 E2.length cp29] (some 61) Ac ?_
  intro w40 hw40
  refine(YY w40 ⟨ax34,cp35,E2⟩ ⟨ax28,cp29,E2⟩ (KG (hw40.at (i:=19) rfl) rfl (by omega)) (KG (hw40.at (i:=18) rfl) rfl (by omega)) hBE2 hBE2 rfl).mono ?_
  rintro e w41 ⟨rfl,hkw41⟩
  have hnw41:w33.heap.size≤w41.heap.size:=AB hw40 hkw41
  refine⟨_,_,rfl,hw40.keeps hkw41, ?_⟩
  refine AC 6 0 [0] [[o0,o0]] [] [(3,.slice ax5 E.length cp6),(4,i6 er),(Oq w8),(8,.slice ax13 E.length cp14),(63,.bool false)] rfl Ac ?_
  by_cases h42:(er:Int)=0
  ·refine Aw 1 6 [] [[o0,oF,o0,o0,o0,(an 7 4)]] [NF er 0,Qb w8.heap.size,Qb w8.heap.size,Qb w8.heap.size,Qb w8.heap.size,Qb w8.heap.size,Qb w8.heap.size,Qb w8.heap.size] [(66,.bool false),(67,.slice ax13 E.length cp14),(68,.slice ax5 E.length cp6),(69,.agg (Am.arr dw))] rfl ⟨nf,rfl,rfl,rfl,rfl,rfl,rfl,rfl,Ac⟩ ?_
   refine l_call [] [] 12 #[.slice ax13 E.length cp14,.slice ax5 E.length cp6,.agg (Am.arr dw)] (some 70) Ac ?_
   intro w43 hw43
   have hDec:=encIs_dec hc hEIw4 (by omega)
   refine Bc (args:=[.slice ax13 E.length cp14,.slice ax5 E.length cp6,.agg (Am.arr dw)]) 117 ⟨w,w41.heap.size,[(A8 w),(NJ c z),(MG E w2 ax5 cp6),(mid w4.heap.size w8),(Pm dw w8),(Ov aW ws cW w8),(OQ sp w8),(Oy aR rs cR w8),(O1 aQ qs cQ w8),(Qu w10 aC cs cC aP ps cP aH c cH),(Qn w10 aC cs sp cC aW ws cW aP ps cP aR rs cR aQ qs cQ aH c cH),(O9 w10 E ax13 cp14),(OB aC cs sp cC w8),(PG w8 wsn),(O5 aP ps cP w8),(PM w8 rsn),(PN w8 qsn),(Rn cs sp ps aH c cH w8),(OE w23 ax28 E2 cp29),(OO E2 w27 ax34 cp35)]⟩ Try.func12 rfl (by kernel_rfl) (by kernel_rfl) hw43 ?_
   refine q_c 7 2 [] [[o0,o0],[o0,o0]] [] [(0,.slice ax13 E.length cp14),(1,.slice ax5 E.length cp6),(Ik w41),(23,.slice ax13 E.length cp14),(24,.slice ax5 E.length cp6)] ⟨w,w41.heap.size+1,[(A8 w),(NJ c z),(MG E w2 ax5 cp6),(mid w4.heap.size w8),(Pm dw w8),(Ov aW ws cW w8),(OQ sp w8),(Oy aR rs cR w8),(O1 aQ qs cQ w8),(Qu w10 aC cs cC aP ps cP aH c cH),(Qn w10 aC cs sp cC aW ws cW aP ps cP aR rs cR aQ qs cQ aH c cH),(O9 w10 E ax13 cp14),(OB aC cs sp cC w8),(PG w8 wsn),(O5 aP ps cP w8),(PM w8 rsn),(PN w8 qsn),(Rn cs sp ps aH c cH w8),(OE w23 ax28 E2 cp29),(OO E2 w27 ax34 cp35),(Ti w41 dw)]⟩ rfl Ac ?_
   refine l_call [] [] 11 #[.slice ax13 E.length cp14,.slice ax5 E.length cp6] (some 25) Ac ?_
   intro w44 hw44
   refine(YY w44 ⟨ax13,cp14,E⟩ ⟨ax5,cp6,E⟩ (KG (hw44.at (i:=11) rfl) rfl (by omega)) (KG (hw44.at (i:=2) rfl) rfl (by omega)) hBE hBE rfl).mono ?_
   rintro e w45 ⟨rfl,hkw45⟩
   have hnw45:w41.heap.size+1≤w45.heap.size:=AB hw44 hkw45
   refine⟨_,_,rfl,hw44.keeps hkw45, ?_⟩
   refine AC 7 1 [0] [[o0],[o0]] [] [(0,.slice ax13 E.length cp14),(1,.slice ax5 E.length cp6),(Ik w41),(27,.slice ax5 E.length cp6)] rfl Ac ?_
   refine l_call [] [] 32 #[.slice ax5 E.length cp6] (some 28) Ac ?_
   intro w46 hw46
   refine(V3 w46 ax5 cp6 E.length E rfl (KG (hw46.at (i:=2) rfl) rfl (by omega)) (by omega)).mono ?_
   rintro e w47 ⟨ax48,cp49,rfl,how47,hkw47⟩
   have hnw47:w45.heap.size≤w47.heap.size:=AB hw46 hkw47
   rw[hw46.size]at how47
   refine⟨_,_,rfl,hw46.Le hkw47 (QN E w45 ax48 cp49) how47 (D9 _ _ _ _ _ _) (fun b hb=>World.ownsRow.lt how47 b hb), ?_⟩
   refine AC 4 1 [] [[o0],[o0]] [] [(0,.slice ax13 E.length cp14),(1,.slice ax5 E.length cp6),(Ik w41),(7,.slice ax48 E.length (cp49 - 0)),(30,.slice ax48 E.length (cp49 - 0))] rfl Ac ?_
   refine l_call [] [] 33 #[.slice ax48 E.length (cp49 - 0)] (some 31) Ac ?_
   intro w50 hw50
   refine(dec_own w50 ax48 (cp49 - 0) E.length E rfl (V5 (hw50.at (i:=21) rfl) rfl (by omega)) hBE (Hz c) hDec).mono ?_
   rintro e w51 ⟨dx,hplx,rfl,hFx,hNx,hOx,hkw51⟩
   have hnw51:w47.heap.size≤w51.heap.size:=AB hw50 hkw51
   rw[show w50.heap.size=w47.heap.size from hw50.size]at hOx;obtain⟨w0x,hOx⟩:=hOx
   refine⟨_,_,rfl,hw50.keepsO hkw51 hOx (conf_new hOx), ?_⟩
   refine Ey 4 1 [] [[o0,o0,o0,o0,o0,(an 7 28),o0,o0],[o0]] [Qb w51.heap.size,Qb w51.heap.size,Qb w51.heap.size,Qb w51.heap.size,Qb w51.heap.size,Qb w51.heap.size,Qb w51.heap.size] [(0,.slice ax13 E.length cp14),(1,.slice ax5 E.length cp6),(Ik w41),(7,.slice ax48 E.length (cp49 - 0)),(Lu w51),(10,i6 0),(36,.slice ax48 E.length (cp49 - 0))] ⟨w,w51.heap.size+1,[(A8 w),(NJ c z),(MG E w2 ax5 cp6),(mid w4.heap.size w8),(Pm dw w8),(Ov aW ws cW w8),(OQ sp w8),(Oy aR rs cR w8),(O1 aQ qs cQ w8),(Qu w10 aC cs cC aP ps cP aH c cH),(Qn w10 aC cs sp cC aW ws cW aP ps cP aR rs cR aQ qs cQ aH c cH),(O9 w10 E ax13 cp14),(OB aC cs sp cC w8),(PG w8 wsn),(O5 aP ps cP w8),(PM w8 rsn),(PN w8 qsn),(Rn cs sp ps aH c cH w8),(OE w23 ax28 E2 cp29),(OO E2 w27 ax34 cp35),(Ti w41 dw),(QN E w45 ax48 cp49),(XU dx w47),(We dx w47),(Xq dx w47),(Wn dx w47),(VO dx w47),(VY dx w47),(UX w51 dx)]⟩ rfl ⟨rfl,rfl,rfl,rfl,rfl,rfl,rfl,Ac⟩ ?_
   refine l_call [] [] 33 #[.slice ax48 E.length (cp49 - 0)] (some 37) Ac ?_
   intro w52 hw52
   refine(U9 w52 ax48 (cp49 - 0) E.length E rfl (V5 (hw52.at (i:=21) rfl) rfl (by omega)) hBE).mono ?_
   rintro e w53 ⟨dy,aty,ery,hDIdy,rfl,hody,hkw53⟩
   have hnw53:w51.heap.size+1≤w53.heap.size:=AB hw52 hkw53
   rw[hw52.size]at hody
   obtain⟨her,hpldy⟩:=decIs_ok hDIdy hDec;subst her
   refine⟨_,_,rfl,hw52.Tu hkw53, ?_⟩
   refine Ey 5 9 [] [[o0,o0,o0,o0,o0,(an 7 30),o0,o0],[o0,o0,o0,o0,o0,o0,o0,o0,o0]] [Qb w53.heap.size,Qb w53.heap.size,Qb w53.heap.size,Qb w53.heap.size,Qb w53.heap.size,Qb w53.heap.size,Qb w53.heap.size] [(0,.slice ax13 E.length cp14),(1,.slice ax5 E.length cp6),(Ik w41),(7,.slice ax48 E.length (cp49 - 0)),(Lu w51),(Kv w53),(47,.bool false),(48,.slice ax48 E.length (cp49 - 0)),(49,.slice ax5 E.length cp6)] ⟨w,w53.heap.size+1,[(A8 w),(NJ c z),(MG E w2 ax5 cp6),(mid w4.heap.size w8),(Pm dw w8),(Ov aW ws cW w8),(OQ sp w8),(Oy aR rs cR w8),(O1 aQ qs cQ w8),(Qu w10 aC cs cC aP ps cP aH c cH),(Qn w10 aC cs sp cC aW ws cW aP ps cP aR rs cR aQ qs cQ aH c cH),(O9 w10 E ax13 cp14),(OB aC cs sp cC w8),(PG w8 wsn),(O5 aP ps cP w8),(PM w8 rsn),(PN w8 qsn),(Rn cs sp ps aH c cH w8),(OE w23 ax28 E2 cp29),(OO E2 w27 ax34 cp35),(Ti w41 dw),(QN E w45 ax48 cp49),(XU dx w47),(We dx w47),(Xq dx w47),(Wn dx w47),(VO dx w47),(VY dx w47),(UX w51 dx),(mid (w51.heap.size+1) w53),(XN w53 dy)]⟩ rfl ⟨rfl,rfl,rfl,rfl,rfl,rfl,rfl,Ac⟩ ?_
   refine l_call [] [] 34 #[.slice ax48 E.length (cp49 - 0),.slice ax5 E.length cp6] (some 50) Ac ?_
   intro w54 hw54
   refine(bk_calls w54 ⟨ax48,cp49,J6 E⟩ ⟨ax5,cp6,E⟩ (KG (hw54.at (i:=21) rfl) LG (by rw[LG];omega)) (KG (hw54.at (i:=2) rfl) rfl (by omega)) rfl (show E.length≤_ by omega)).mono ?_
   rintro e w55 ⟨rfl,hkw55⟩
   have hnw55:w53.heap.size+1≤w55.heap.size:=AB hw54 hkw55
   refine⟨_,_,rfl,hw54.keeps hkw55, ?_⟩
   refine AC 7 1 [0] [[o0,o0],[o0]] [] [(0,.slice ax13 E.length cp14),(1,.slice ax5 E.length cp6),(Ik w41),(7,.slice ax48 E.length (cp49 - 0)),(Lu w51),(Kv w53),(53,.slice ax48 E.length (cp49 - 0))] rfl Ac ?_
   refine l_call [] [] 35 #[.slice ax48 E.length (cp49 - 0),.int .u8 9] (some 54) Ac ?_
   intro w56 hw56
   have hq:=hw56.pick [21] rfl rfl
   refine(spoil_full w56 w w45.heap.size cp49 E.length ax48 E 9 (by decide) rfl (by rw[hw56.size];exact hq) (by have:=hw56.size;simp only[]at this;omega) (by omega)).mono ?_
   rintro e w57 ⟨rfl,hspo,hkw57⟩
   have hnw57:w55.heap.size≤w57.heap.size:=AB hw56 hkw57
   refine⟨_,_,rfl,hw56.spend [0,1,2,3,4,5,6,7,8,9,10,11,12,13,14,15,16,17,18,19,20,22,23,24,25,26,27,28,29,30] [21] rfl rfl rfl (by decide) (fun c hc=>by simp only[List.mem_cons,List.not_mem_nil,or_false]at hc;rcases hc with rfl <;> rfl) hkw57, ?_⟩
   refine AC 4 1 [] [[],[o0]] [] [(0,.slice ax13 E.length cp14),(1,.slice ax5 E.length cp6),(Ik w41),(7,.slice ax48 E.length (cp49 - 0)),(Lu w51),(Kv w53),(56,.slice ax48 E.length (cp49 - 0))] rfl Ac ?_
   refine l_call [] [] 33 #[.slice ax48 E.length (cp49 - 0)] (some 57) Ac ?_
   intro w58 hw58
   refine(U9 w58 ax48 (cp49 - 0) E.length (spoilt 9 E.length) Iy (Bf (QM (hw58.at (i:=30) rfl)) (fun _ _=>trivial) hspo) Xn).mono ?_
   rintro e w59 ⟨dn,atn,ern,hDIdn,rfl,hodn,hkw59⟩
   have hnw59:w57.heap.size≤w59.heap.size:=AB hw58 hkw59
   rw[hw58.size]at hodn
   refine⟨_,_,rfl,hw58.Tu hkw59, ?_⟩
   refine Ey 4 1 [] [[o0,o0,o0,o0,o0,(an 7 32),o0,o0],[o0]] [Qb w59.heap.size,Qb w59.heap.size,Qb w59.heap.size,Qb w59.heap.size,Qb w59.heap.size,Qb w59.heap.size,Qb w59.heap.size] [(0,.slice ax13 E.length cp14),(1,.slice ax5 E.length cp6),(Ik w41),(Lu w51),(Kv w53),(14,pt w59.heap.size),(15,i6 atn),(16,i6 ern),(62,.slice ax48 E.length (cp49 - 0))] ⟨w,w59.heap.size+1,[(A8 w),(NJ c z),(MG E w2 ax5 cp6),(mid w4.heap.size w8),(Pm dw w8),(Ov aW ws cW w8),(OQ sp w8),(Oy aR rs cR w8),(O1 aQ qs cQ w8),(Qu w10 aC cs cC aP ps cP aH c cH),(Qn w10 aC cs sp cC aW ws cW aP ps cP aR rs cR aQ qs cQ aH c cH),(O9 w10 E ax13 cp14),(OB aC cs sp cC w8),(PG w8 wsn),(O5 aP ps cP w8),(PM w8 rsn),(PN w8 qsn),(Rn cs sp ps aH c cH w8),(OE w23 ax28 E2 cp29),(OO E2 w27 ax34 cp35),(Ti w41 dw),(XU dx w47),(We dx w47),(Xq dx w47),(Wn dx w47),(VO dx w47),(VY dx w47),(UX w51 dx),(mid (w51.heap.size+1) w53),(XN w53 dy),(BN (EO [(QN E w45 ax48 cp49)]) w57),(mid w57.heap.size w59),(.blk w59.heap.size (.cells (Am.arr dn) 26 (0,0)) true)]⟩ rfl ⟨rfl,rfl,rfl,rfl,rfl,rfl,rfl,Ac⟩ ?_
   refine l_call [] [] 32 #[.slice ax48 E.length (cp49 - 0)] (some 63) Ac ?_
   intro w60 hw60
   refine(V3 w60 ax48 (cp49 - 0) E.length (spoilt 9 E.length) Iy (Bf (QM (hw60.at (i:=30) rfl)) (fun _ _=>trivial) hspo) (by rw[Iy];omega)).mono ?_
   rintro e w61 ⟨ax62,cp63,rfl,how61,hkw61⟩
   have hnw61:w59.heap.size+1≤w61.heap.size:=AB hw60 hkw61
   rw[hw60.size]at how61
   refine⟨_,_,rfl,hw60.Le hkw61 (Y2 w59 ax62 E cp63) how61 (D9 _ _ _ _ _ _) (fun b hb=>World.ownsRow.lt how61 b hb), ?_⟩
   refine DX [0,1,5,8,11,14,15,16,63] [(0,.slice ax13 E.length cp14),(1,.slice ax5 E.length cp6),(Ik w41),(Lu w51),(Kv w53),(14,pt w59.heap.size),(15,i6 atn),(16,i6 ern),(63,.slice ax62 E.length (cp63 - 0))] ?_
   refine l_call [] [] 36 #[.slice ax62 E.length (cp63 - 0)] (some 64) Ac ?_
   intro w64 hw64
   refine(rdecode_gen w64 ax62 (cp63 - 0) E.length (spoilt 9 E.length) Iy (V5 (hw64.at (i:=33) rfl) Iy (by rw[Iy];omega)) Xn).mono ?_
   rintro e w65 ⟨dO,ato,ero,hDIdO,rfl,hodO,hkw65⟩
   have hnw65:w61.heap.size≤w65.heap.size:=AB hw64 hkw65
   rw[hw64.size]at hodO
   obtain⟨e1,e2,hss⟩:=decIs_eq hDIdn hDIdO;have e1:=e1.symm;have e2:=e2.symm;subst e1;subst e2
   refine⟨_,_,rfl,hw64.Tu hkw65, ?_⟩
   refine Ey 5 11 [] [[o0,o0,o0,o0,o0,(an 7 35),o0,o0],[o0,o0,oF,o0,o0,o0,oF,o0,o0,(an 7 32),(an 7 35)]] [Qb w65.heap.size,Qb w65.heap.size,Qb w65.heap.size,Qb w65.heap.size,Qb w65.heap.size,Qb w65.heap.size,Qb w65.heap.size,NF ern ern,NF atn atn,Qb w59.heap.size,Qb w59.heap.size,Qb w59.heap.size,Qb w59.heap.size,Qb w59.heap.size,Qb w59.heap.size,Qb w59.heap.size,Qb w65.heap.size,Qb w65.heap.size,Qb w65.heap.size,Qb w65.heap.size,Qb w65.heap.size,Qb w65.heap.size,Qb w65.heap.size] [(0,.slice ax13 E.length cp14),(1,.slice ax5 E.length cp6),(Ik w41),(Lu w51),(Kv w53),(76,.bool false),(77,.agg (Am.arr dn)),(78,.agg (Am.arr dO))] ⟨w,w65.heap.size+1,[(A8 w),(NJ c z),(MG E w2 ax5 cp6),(mid w4.heap.size w8),(Pm dw w8),(Ov aW ws cW w8),(OQ sp w8),(Oy aR rs cR w8),(O1 aQ qs cQ w8),(Qu w10 aC cs cC aP ps cP aH c cH),(Qn w10 aC cs sp cC aW ws cW aP ps cP aR rs cR aQ qs cQ aH c cH),(O9 w10 E ax13 cp14),(OB aC cs sp cC w8),(PG w8 wsn),(O5 aP ps cP w8),(PM w8 rsn),(PN w8 qsn),(Rn cs sp ps aH c cH w8),(OE w23 ax28 E2 cp29),(OO E2 w27 ax34 cp35),(Ti w41 dw),(XU dx w47),(We dx w47),(Xq dx w47),(Wn dx w47),(VO dx w47),(VY dx w47),(UX w51 dx),(mid (w51.heap.size+1) w53),(XN w53 dy),(BN (EO [(QN E w45 ax48 cp49)]) w57),(mid w57.heap.size w59),(.blk w59.heap.size (.cells (Am.arr dn) 26 (0,0)) true),(Y2 w59 ax62 E cp63),(mid w61.heap.size w65),(.blk w65.heap.size (.cells (Am.arr dO) 26 (0,0)) true)]⟩ rfl ⟨rfl,rfl,rfl,rfl,rfl,rfl,rfl,nf,nf,rfl,rfl,rfl,rfl,rfl,rfl,rfl,rfl,rfl,rfl,rfl,rfl,rfl,rfl,Ac⟩ ?_
   refine l_call [] [] 29 #[.agg (Am.arr dn),.agg (Am.arr dO)] (some 79) Ac ?_
   intro w66 hw66
   refine(MO w66 dn dO (hodn.ext (hw66.RJ 31) (fun _ _=>trivial)) (hodO.ext (hw66.RJ 34) (fun _ _=>trivial)) hss.symm).mono ?_
   rintro e w67 ⟨rfl,hkw67⟩
   have hnw67:w65.heap.size+1≤w67.heap.size:=AB hw66 hkw67
   refine⟨_,_,rfl,hw66.keeps hkw67, ?_⟩
   refine AC 7 1 [0] [[o0,o0],[o0]] [] [(1,.slice ax5 E.length cp6),(Ik w41),(Lu w51),(Kv w53),(82,.slice ax13 E.length cp14)] rfl Ac ?_
   refine l_call [] [] 35 #[.slice ax13 E.length cp14,.int .u8 7] (some 83) Ac ?_
   intro w68 hw68
   have hq:=hw68.pick [11] rfl rfl
   refine(WE w68 ax13 cp14 (w10.heap.size+2) E 7 (by decide) w (by rw[hw68.size];exact hq) _ rfl (by have:=hw68.size;simp only[]at this;omega) (by omega)).mono ?_
   rintro e w69 ⟨rfl, -,hkw69⟩
   have hnw69:w67.heap.size≤w69.heap.size:=AB hw68 hkw69
   refine⟨_,_,rfl,hw68.spend [0,1,2,3,4,5,6,7,8,9,10,12,13,14,15,16,17,18,19,20,21,22,23,24,25,26,27,28,29,30,31,32,33,34,35] [11] rfl rfl rfl (by decide) (fun c hc=>by simp only[List.mem_cons,List.not_mem_nil,or_false]at hc;rcases hc with rfl <;> rfl) hkw69, ?_⟩
   refine AC 5 2 [] [[],[(an 7 26),(an 7 19)]] [Qb w51.heap.size,Qb w51.heap.size,Qb w51.heap.size,Qb w51.heap.size,Qb w51.heap.size,Qb w51.heap.size,Qb w51.heap.size,Qb w41.heap.size,Qb w41.heap.size,Qb w41.heap.size,Qb w41.heap.size,Qb w41.heap.size,Qb w41.heap.size,Qb w41.heap.size] [(1,.slice ax5 E.length cp6),(Ik w41),(Lu w51),(Kv w53),(84,.agg (Am.arr dx)),(85,.agg (Am.arr dw))] rfl ⟨rfl,rfl,rfl,rfl,rfl,rfl,rfl,rfl,rfl,rfl,rfl,rfl,rfl,rfl,Ac⟩ ?_
   refine l_call [] [] 29 #[.agg (Am.arr dx),.agg (Am.arr dw)] (some 86) Ac ?_
   intro w70 hw70
   have hq71:=hw70.pick [20,21,22,23,24,25] rfl rfl
   refine(MO w70 dx dw (Uu (n:=w47.heap.size) (d:=dx) hNx hFx hq71) (how.ext (hw70.RJ 3) (fun _ _=>trivial)) ((Qq hplx).trans hsw.symm)).mono ?_
   rintro e w72 ⟨rfl,hkw72⟩
   have hnw72:w69.heap.size≤w72.heap.size:=AB hw70 hkw72
   refine⟨_,_,rfl,hw70.keeps hkw72, ?_⟩
   refine AC 0 4 [] [[o0,o0,(an 7 28),(an 7 19)]] [Qb w53.heap.size,Qb w53.heap.size,Qb w53.heap.size,Qb w53.heap.size,Qb w53.heap.size,Qb w53.heap.size,Qb w53.heap.size,Qb w41.heap.size,Qb w41.heap.size,Qb w41.heap.size,Qb w41.heap.size,Qb w41.heap.size,Qb w41.heap.size,Qb w41.heap.size] [(1,.slice ax5 E.length cp6),(Ik w41),(Lu w51),(Kv w53),(88,.bool false),(89,.agg (Am.arr dy)),(90,.agg (Am.arr dw))] rfl ⟨rfl,rfl,rfl,rfl,rfl,rfl,rfl,rfl,rfl,rfl,rfl,rfl,rfl,rfl,Ac⟩ ?_
   refine l_call [] [] 29 #[.agg (Am.arr dy),.agg (Am.arr dw)] (some 91) Ac ?_
   intro w73 hw73
   refine(MO w73 dy dw (hody.ext (hw73.RJ 27) (fun _ _=>trivial)) (how.ext (hw73.RJ 3) (fun _ _=>trivial)) ((Qq hpldy).trans hsw.symm)).mono ?_
   rintro e w74 ⟨rfl,hkw74⟩
   have hnw74:w72.heap.size≤w74.heap.size:=AB hw73 hkw74
   refine⟨_,_,rfl,hw73.keeps hkw74, ?_⟩
   refine AC 7 1 [0] [[o0,o0],[(an 7 26)]] [Qb w51.heap.size,Qb w51.heap.size,Qb w51.heap.size,Qb w51.heap.size,Qb w51.heap.size,Qb w51.heap.size,Qb w51.heap.size] [(1,.slice ax5 E.length cp6),(Ik w41),(Lu w51),(Kv w53),(94,.agg (Am.arr dx))] rfl ⟨rfl,rfl,rfl,rfl,rfl,rfl,rfl,Ac⟩ ?_
   refine l_call [] [] 10 #[.agg (Am.arr dx)] (some 95) Ac ?_
   intro w75 hw75
   have hq77:=hw75.pick [20,21,22,23,24,25] rfl rfl
   refine(marked_conf w75 dx w47.heap.size w hFx hNx (by rw[hw75.size];exact hq77) (by have:=hw75.size;simp only[]at this;omega)).mono ?_
   rintro e w76 ⟨rfl,⟨d2,harr,hN2,hF2,hS2,hBl⟩,hkw76⟩
   have hnw76:w74.heap.size≤w76.heap.size:=AB hw75 hkw76
   refine⟨_,_,rfl,hw75.turn [0,1,2,3,4,5,6,7,8,9,10,11,12,13,14,15,16,17,18,19,26,27,28,29,30,31,32,33,34,35] [20,21,22,23,24,25] rfl rfl rfl (by decide) (fun c hc=>by simp only[List.mem_cons,List.not_mem_nil,or_false]at hc;rcases hc with rfl | rfl | rfl | rfl | rfl | rfl <;> rfl) hkw76 (fun c hc=>⟨hS2.all c hc,hS2.KQ c hc,fun b hb=>⟨hS2.bnd c hc b hb,.inl ((fun b (hb:EO (Jd w47.heap.size d2) b)=>show EO (Jd w47.heap.size dx) b from by rw[hBl]at hb;exact hb) b ⟨c,hc,hb⟩)⟩⟩) hS2.Js, ?_⟩
   refine AC 5 1 [] [[],[(an 7 20)]] [Qb w51.heap.size,Qb w51.heap.size,Qb w51.heap.size,Qb w51.heap.size,Qb w51.heap.size,Qb w51.heap.size,Qb w51.heap.size] [(1,.slice ax5 E.length cp6),(Ik w41),(Kv w53),(96,.agg (Am.arr dx))] rfl ⟨rfl,rfl,rfl,rfl,rfl,rfl,rfl,Ac⟩ ?_
   refine l_call [] [] 37 #[.agg (Am.arr dx)] (some 97) Ac ?_
   intro w78 hw78
   have hq80:=hw78.pick [30,31,32,33,34,35] rfl rfl
   have hgr:=grown_conf w78 d2 w47.heap.size w hF2 hN2 (by rw[hw78.size];exact hq80) (by have:=hw78.size;simp only[]at this;omega);rw[harr]at hgr
   refine hgr.mono ?_
   rintro e w79 ⟨rfl,hkw79⟩
   have hnw79:w76.heap.size≤w79.heap.size:=AB hw78 hkw79
   refine⟨_,_,rfl,hw78.spend [0,1,2,3,4,5,6,7,8,9,10,11,12,13,14,15,16,17,18,19,20,21,22,23,24,25,26,27,28,29] [30,31,32,33,34,35] rfl rfl rfl (by decide) (fun c hc=>by simp only[List.mem_cons,List.not_mem_nil,or_false]at hc;rcases hc with rfl | rfl | rfl | rfl | rfl | rfl <;> rfl) hkw79, ?_⟩
   refine AC 7 1 [0] [[o0],[o0]] [] [(Ik w41),(Kv w53),(100,.slice ax5 E.length cp6)] rfl Ac ?_
   refine l_call [] [] 33 #[.slice ax5 E.length cp6] (some 101) Ac ?_
   intro w81 hw81
   refine(U9 w81 ax5 cp6 E.length E rfl (KG (hw81.at (i:=2) rfl) rfl (by omega)) hBE).mono ?_
   rintro e w82 ⟨dz,atz,erz,hDIdz,rfl,hodz,hkw82⟩
   have hnw82:w79.heap.size≤w82.heap.size:=AB hw81 hkw82
   rw[hw81.size]at hodz
   obtain⟨her,hpldz⟩:=decIs_ok hDIdz hDec;subst her
   refine⟨_,_,rfl,hw81.Tu hkw82, ?_⟩
   refine Ey 4 5 [] [[o0,o0,o0,o0,o0,(an 7 32),o0,o0],[o0,o0,o0,(an 7 22),(an 7 19)]] [Qb w82.heap.size,Qb w82.heap.size,Qb w82.heap.size,Qb w82.heap.size,Qb w82.heap.size,Qb w82.heap.size,Qb w82.heap.size,Qb w53.heap.size,Qb w53.heap.size,Qb w53.heap.size,Qb w53.heap.size,Qb w53.heap.size,Qb w53.heap.size,Qb w53.heap.size,Qb w41.heap.size,Qb w41.heap.size,Qb w41.heap.size,Qb w41.heap.size,Qb w41.heap.size,Qb w41.heap.size,Qb w41.heap.size] [(Ik w41),(20,pt w82.heap.size),(107,.bool true),(108,.agg (Am.arr dy)),(109,.agg (Am.arr dw))] ⟨w,w82.heap.size+1,[(A8 w),(NJ c z),(MG E w2 ax5 cp6),(mid w4.heap.size w8),(Pm dw w8),(Ov aW ws cW w8),(OQ sp w8),(Oy aR rs cR w8),(O1 aQ qs cQ w8),(Qu w10 aC cs cC aP ps cP aH c cH),(Qn w10 aC cs sp cC aW ws cW aP ps cP aR rs cR aQ qs cQ aH c cH),(OB aC cs sp cC w8),(PG w8 wsn),(O5 aP ps cP w8),(PM w8 rsn),(PN w8 qsn),(Rn cs sp ps aH c cH w8),(OE w23 ax28 E2 cp29),(OO E2 w27 ax34 cp35),(Ti w41 dw),(UX w51 dx),(mid (w51.heap.size+1) w53),(XN w53 dy),(BN (EO [(QN E w45 ax48 cp49)]) w57),(mid w57.heap.size w59),(.blk w59.heap.size (.cells (Am.arr dn) 26 (0,0)) true),(Y2 w59 ax62 E cp63),(mid w61.heap.size w65),(.blk w65.heap.size (.cells (Am.arr dO) 26 (0,0)) true),(BN (EO [(O9 w10 E ax13 cp14)]) w69),(BN (EO [(Au w47.heap.size 43 1 (fun x:Sl Af=>[Sl.val x]) (.slice d2.Aj.a d2.Aj.xs.length d2.Aj.cap) d2.Aj.xs),(Aq w47.heap.size 51 3 Af.cells d2.Aj.xs),(Au w47.heap.size 47 8 Ag.cells (.slice d2.Aa.a d2.Aa.xs.length d2.Aa.cap) d2.Aa.xs),(Aq w47.heap.size 53 4 Ak.cells (d2.Aa.xs.map Ag.Ad)),(Aq w47.heap.size 55 2 Ap.cells (d2.Aa.xs.map Ag.Ai)),(Au w47.heap.size 57 3 Ar.cells (.slice d2.Ah.a d2.Ah.xs.length d2.Ah.cap) d2.Ah.xs)]) w79),(mid w79.heap.size w82),(.blk w82.heap.size (.cells (Am.arr dz) 26 (0,0)) true)]⟩ rfl ⟨rfl,rfl,rfl,rfl,rfl,rfl,rfl,rfl,rfl,rfl,rfl,rfl,rfl,rfl,rfl,rfl,rfl,rfl,rfl,rfl,rfl,Ac⟩ ?_
   refine l_call [] [] 29 #[.agg (Am.arr dy),.agg (Am.arr dw)] (some 110) Ac ?_
   intro w83 hw83
   refine(MO w83 dy dw (hody.ext (hw83.RJ 21) (fun _ _=>trivial)) (how.ext (hw83.RJ 3) (fun _ _=>trivial)) ((Qq hpldy).trans hsw.symm)).mono ?_
   rintro e w84 ⟨rfl,hkw84⟩
   have hnw84:w82.heap.size+1≤w84.heap.size:=AB hw83 hkw84
   refine⟨_,_,rfl,hw83.keeps hkw84, ?_⟩
   refine AC 0 4 [] [[o0,o0,(an 7 32),(an 7 19)]] [Qb w82.heap.size,Qb w82.heap.size,Qb w82.heap.size,Qb w82.heap.size,Qb w82.heap.size,Qb w82.heap.size,Qb w82.heap.size,Qb w41.heap.size,Qb w41.heap.size,Qb w41.heap.size,Qb w41.heap.size,Qb w41.heap.size,Qb w41.heap.size,Qb w41.heap.size] [(112,.bool true),(113,.agg (Am.arr dz)),(114,.agg (Am.arr dw))] rfl ⟨rfl,rfl,rfl,rfl,rfl,rfl,rfl,rfl,rfl,rfl,rfl,rfl,rfl,rfl,Ac⟩ ?_
   refine l_call [] [] 29 #[.agg (Am.arr dz),.agg (Am.arr dw)] (some 115) Ac ?_
   intro w85 hw85
   refine(MO w85 dz dw (hodz.ext (hw85.RJ 31) (fun _ _=>trivial)) (how.ext (hw85.RJ 3) (fun _ _=>trivial)) ((Qq hpldz).trans hsw.symm)).mono ?_
   rintro e w86 ⟨rfl,hkw86⟩
   have hnw86:w84.heap.size≤w86.heap.size:=AB hw85 hkw86
   refine⟨_,_,rfl,hw85.keeps hkw86, ?_⟩
   refine AC 3 0 [] [[o0,o0]] [] [(6,.bool true)] rfl Ac ?_
   refine AU [] [] (.bool true) Ac ?_
   intro w87 hw87
   refine⟨_,_,rfl,hw87, ?_⟩
   refine AC 3 0 [] [[o0,o0]] [] [(2,.bool true)] rfl Ac ?_
   refine AU [] [] (.bool true) Ac ?_
   intro w88 hw88
   exact⟨rfl,A7 hw88⟩
  refine Aw 4 0 [] [[o0,oT,o0,o0,o0]] [NT er 0] [(2,.bool true)] rfl ⟨nt,Ac⟩ ?_
  refine AU [] [] (.bool true) Ac ?_
  intro w89 hw89
  exact⟨rfl,A7 hw89⟩
 refine⟨_,_,rfl,hw1.keeps hkw2, ?_⟩
 refine AC 8 0 [1] [[],[o0]] [] [(2,.bool true)] rfl Ac ?_
 refine AU [] [] (.bool true) Ac ?_
 intro w90 hw90
 exact⟨rfl,A7 hw90⟩
end Go.Proofs.Ytjmcjekhgpakoaa.Ck
namespace Go.Proofs.Ytjmcjekhgpakoaa.Cf
open Go Go.ChangeShapes Go.Deep Go.Proofs.Ytjmcjekhgpakoaa.Eng Go.Proofs.Ytjmcjekhgpakoaa.Mem Go.Proofs.Ytjmcjekhgpakoaa.Ly
set_option linter.unusedSimpArgs false
set_option linter.unusedVariables false
set_option maxRecDepth 100000
theorem rd_TWindow:Rd Try.prog 51 Af.cells Af.ok:=by
 intro H enc W fuel cs x hx hw
 obtain⟨xs,n, -,rfl,hl,hlen,hf⟩:=DataW.trod_struct Try.underlying51 hx
 rw[show Try.prog.cellsOf 51=3 from by kernel_rfl]at hl
 match cs,hl with
 | [c0,c1,c2],_ =>
  obtain⟨y0,e0,k0⟩:=EG Try.underlying51 hlen hf hw 0 0 1 _ rfl rfl (by kernel_rfl) (H7 Try.underlying3)
  have g0:[c0]=_:=e0
  simp only[List.cons.injEq,and_true]at g0
  subst g0
  obtain⟨y1,e1,k1⟩:=EG Try.underlying51 hlen hf hw 1 1 1 _ rfl rfl (by kernel_rfl) (H7 Try.underlying3)
  have g1:[c1]=_:=e1
  simp only[List.cons.injEq,and_true]at g1
  subst g1
  obtain⟨y2,e2,k2⟩:=EG Try.underlying51 hlen hf hw 2 2 1 _ rfl rfl (by kernel_rfl) (H7 Try.underlying3)
  have g2:[c2]=_:=e2
  simp only[List.cons.injEq,and_true]at g2
  subst g2
  exact⟨⟨y0,y1,y2⟩,rfl,⟨k0,k1,k2⟩⟩
theorem rd_TRegion:Rd Try.prog 53 Ak.cells Ak.ok:=by
 intro H enc W fuel cs x hx hw
 obtain⟨xs,n, -,rfl,hl,hlen,hf⟩:=DataW.trod_struct Try.underlying53 hx
 rw[show Try.prog.cellsOf 53=4 from by kernel_rfl]at hl
 match cs,hl with
 | [c0,c1,c2,c3],_ =>
  obtain⟨y0,e0,k0⟩:=EG Try.underlying53 hlen hf hw 0 0 1 _ rfl rfl (by kernel_rfl) (H7 Try.underlying3)
  have g0:[c0]=_:=e0
  simp only[List.cons.injEq,and_true]at g0
  subst g0
  obtain⟨y1,e1,k1⟩:=EG Try.underlying53 hlen hf hw 1 1 1 _ rfl rfl (by kernel_rfl) (H7 Try.underlying3)
  have g1:[c1]=_:=e1
  simp only[List.cons.injEq,and_true]at g1
  subst g1
  obtain⟨y2,e2,k2⟩:=EG Try.underlying53 hlen hf hw 2 2 1 _ rfl rfl (by kernel_rfl) (H7 Try.underlying3)
  have g2:[c2]=_:=e2
  simp only[List.cons.injEq,and_true]at g2
  subst g2
  obtain⟨y3,e3,k3⟩:=EG Try.underlying53 hlen hf hw 3 3 1 _ rfl rfl (by kernel_rfl) (H7 Try.underlying3)
  have g3:[c3]=_:=e3
  simp only[List.cons.injEq,and_true]at g3
  subst g3
  exact⟨⟨y0,y1,y2,y3⟩,rfl,⟨k0,k1,k2,k3⟩⟩
theorem rd_TPort:Rd Try.prog 55 Ap.cells Ap.ok:=by
 intro H enc W fuel cs x hx hw
 obtain⟨xs,n, -,rfl,hl,hlen,hf⟩:=DataW.trod_struct Try.underlying55 hx
 rw[show Try.prog.cellsOf 55=2 from by kernel_rfl]at hl
 match cs,hl with
 | [c0,c1],_ =>
  obtain⟨y0,e0,k0⟩:=EG Try.underlying55 hlen hf hw 0 0 1 _ rfl rfl (by kernel_rfl) (H7 Try.underlying3)
  have g0:[c0]=_:=e0
  simp only[List.cons.injEq,and_true]at g0
  subst g0
  obtain⟨y1,e1,k1⟩:=EG Try.underlying55 hlen hf hw 1 1 1 _ rfl rfl (by kernel_rfl) (rd_bool Try.underlying4)
  have g1:[c1]=_:=e1
  simp only[List.cons.injEq,and_true]at g1
  subst g1
  exact⟨⟨y0,y1⟩,rfl,⟨k0,k1⟩⟩
theorem Zm:Rd Try.prog 47 Ag.cells Ag.ok:=by
 intro H enc W fuel cs x hx hw
 obtain⟨xs,n, -,rfl,hl,hlen,hf⟩:=DataW.trod_struct Try.underlying47 hx
 rw[show Try.prog.cellsOf 47=8 from by kernel_rfl]at hl
 match cs,hl with
 | [c0,c1,c2,c3,c4,c5,c6,c7],_ =>
  obtain⟨y0,e0,k0⟩:=EG Try.underlying47 hlen hf hw 0 0 1 _ rfl rfl (by kernel_rfl) (rd_string Try.underlying9)
  have g0:[c0]=_:=e0
  simp only[List.cons.injEq,and_true]at g0
  subst g0
  obtain⟨y1,e1,k1⟩:=EG Try.underlying47 hlen hf hw 1 1 1 _ rfl rfl (by kernel_rfl) (H7 Try.underlying3)
  have g1:[c1]=_:=e1
  simp only[List.cons.injEq,and_true]at g1
  subst g1
  obtain⟨y2,e2,k2⟩:=EG Try.underlying47 hlen hf hw 2 2 1 _ rfl rfl (by kernel_rfl) (H7 Try.underlying3)
  have g2:[c2]=_:=e2
  simp only[List.cons.injEq,and_true]at g2
  subst g2
  obtain⟨y3,e3,k3⟩:=EG Try.underlying47 hlen hf hw 3 3 1 _ rfl rfl (by kernel_rfl) (H7 Try.underlying3)
  have g3:[c3]=_:=e3
  simp only[List.cons.injEq,and_true]at g3
  subst g3
  obtain⟨y4,e4,k4⟩:=EG Try.underlying47 hlen hf hw 4 4 1 _ rfl rfl (by kernel_rfl) (H7 Try.underlying3)
  have g4:[c4]=_:=e4
  simp only[List.cons.injEq,and_true]at g4
  subst g4
  obtain⟨y5,e5,k5⟩:=EG Try.underlying47 hlen hf hw 5 5 1 _ rfl rfl (by kernel_rfl) (H7 Try.underlying3)
  have g5:[c5]=_:=e5
  simp only[List.cons.injEq,and_true]at g5
  subst g5
  obtain⟨y6,e6,k6⟩:=EG Try.underlying47 hlen hf hw 6 6 1 _ rfl rfl (by kernel_rfl) (Qa (cells:=Ak.cells) (sz:=4) Try.underlying44 (by kernel_rfl) (fun _=>rfl) (by decide) (by kernel_rfl) rd_TRegion)
  have g6:[c6]=_:=e6
  simp only[List.cons.injEq,and_true]at g6
  subst g6
  obtain⟨y7,e7,k7⟩:=EG Try.underlying47 hlen hf hw 7 7 1 _ rfl rfl (by kernel_rfl) (Qa (cells:=Ap.cells) (sz:=2) Try.underlying45 (by kernel_rfl) (fun _=>rfl) (by decide) (by kernel_rfl) rd_TPort)
  have g7:[c7]=_:=e7
  simp only[List.cons.injEq,and_true]at g7
  subst g7
  exact⟨⟨y0,y1,y2,y3,y4,y5,y6,y7⟩,rfl,⟨k0,k1,k2,k3,k4,k5,k6,k7⟩⟩
theorem rd_TChannel:Rd Try.prog 57 Ar.cells Ar.ok:=by
 intro H enc W fuel cs x hx hw
 obtain⟨xs,n, -,rfl,hl,hlen,hf⟩:=DataW.trod_struct Try.underlying57 hx
 rw[show Try.prog.cellsOf 57=3 from by kernel_rfl]at hl
 match cs,hl with
 | [c0,c1,c2],_ =>
  obtain⟨y0,e0,k0⟩:=EG Try.underlying57 hlen hf hw 0 0 1 _ rfl rfl (by kernel_rfl) (H7 Try.underlying3)
  have g0:[c0]=_:=e0
  simp only[List.cons.injEq,and_true]at g0
  subst g0
  obtain⟨y1,e1,k1⟩:=EG Try.underlying57 hlen hf hw 1 1 1 _ rfl rfl (by kernel_rfl) (H7 Try.underlying3)
  have g1:[c1]=_:=e1
  simp only[List.cons.injEq,and_true]at g1
  subst g1
  obtain⟨y2,e2,k2⟩:=EG Try.underlying57 hlen hf hw 2 2 1 _ rfl rfl (by kernel_rfl) (H7 Try.underlying3)
  have g2:[c2]=_:=e2
  simp only[List.cons.injEq,and_true]at g2
  subst g2
  exact⟨⟨y0,y1,y2⟩,rfl,⟨k0,k1,k2⟩⟩
theorem rd_TConfig:Rd Try.prog 26 Am.cells Am.ok:=by
 intro H enc W fuel cs x hx hw
 obtain⟨xs,n, -,rfl,hl,hlen,hf⟩:=DataW.trod_struct Try.underlying26 hx
 rw[show Try.prog.cellsOf 26=7 from by kernel_rfl]at hl
 match cs,hl with
 | [c0,c1,c2,c3,c4,c5,c6],_ =>
  obtain⟨y0,e0,k0⟩:=EG Try.underlying26 hlen hf hw 0 0 1 _ rfl rfl (by kernel_rfl) (H7 Try.underlying3)
  have g0:[c0]=_:=e0
  simp only[List.cons.injEq,and_true]at g0
  subst g0
  obtain⟨y1,e1,k1⟩:=EG Try.underlying26 hlen hf hw 1 1 1 _ rfl rfl (by kernel_rfl) (H7 Try.underlying3)
  have g1:[c1]=_:=e1
  simp only[List.cons.injEq,and_true]at g1
  subst g1
  obtain⟨y2,e2,k2⟩:=EG Try.underlying26 hlen hf hw 2 2 1 _ rfl rfl (by kernel_rfl) (H7 Try.underlying3)
  have g2:[c2]=_:=e2
  simp only[List.cons.injEq,and_true]at g2
  subst g2
  obtain⟨y3,e3,k3⟩:=EG Try.underlying26 hlen hf hw 3 3 1 _ rfl rfl (by kernel_rfl) (H7 Try.underlying3)
  have g3:[c3]=_:=e3
  simp only[List.cons.injEq,and_true]at g3
  subst g3
  obtain⟨y4,e4,k4⟩:=EG Try.underlying26 hlen hf hw 4 4 1 _ rfl rfl (by kernel_rfl) (Qa (cells:=(fun x:Sl Af=>[Sl.val x])) (sz:=1) Try.underlying22 (by kernel_rfl) (fun _=>rfl) (by decide) (by kernel_rfl) (Qa (cells:=Af.cells) (sz:=3) Try.underlying43 (by kernel_rfl) (fun _=>rfl) (by decide) (by kernel_rfl) rd_TWindow))
  have g4:[c4]=_:=e4
  simp only[List.cons.injEq,and_true]at g4
  subst g4
  obtain⟨y5,e5,k5⟩:=EG Try.underlying26 hlen hf hw 5 5 1 _ rfl rfl (by kernel_rfl) (Qa (cells:=Ag.cells) (sz:=8) Try.underlying23 (by kernel_rfl) (fun _=>rfl) (by decide) (by kernel_rfl) Zm)
  have g5:[c5]=_:=e5
  simp only[List.cons.injEq,and_true]at g5
  subst g5
  obtain⟨y6,e6,k6⟩:=EG Try.underlying26 hlen hf hw 6 6 1 _ rfl rfl (by kernel_rfl) (Qa (cells:=Ar.cells) (sz:=3) Try.underlying24 (by kernel_rfl) (fun _=>rfl) (by decide) (by kernel_rfl) rd_TChannel)
  have g6:[c6]=_:=e6
  simp only[List.cons.injEq,and_true]at g6
  subst g6
  exact⟨⟨y0,y1,y2,y3,y4,y5,y6⟩,rfl,⟨k0,k1,k2,k3,k4,k5,k6⟩⟩
end Go.Proofs.Ytjmcjekhgpakoaa.Cf
namespace Go.Proofs.Ytjmcjekhgpakoaa.Row
open Go.ChangeShapes Go.WideShapes Go.ChangeAt Go.RowKit
set_option linter.unusedVariables false
section
variable {H:Type}{enc:TypeId×Value→H}{P:Program}
theorem Zo(hl:laidOutB P=true){W W':World}(hb:Below W.heap.size W W') :
   ∀ {ts:List TypeId} {vs:List Value} {ds:List (DataW H)} {ps:List MemPlace},
     ts.all (fun t=>P.readableRec t&&decide (t<P.types.size))=true→(∀ x∈ps,x.block<W.heap.size) →
     DataW.TrodAll enc P W 0 (fun _=>true) true ts vs ds ps→DataW.TrodAll enc P W' 0 (fun b=>decide (b<W.heap.size)) true ts vs ds ps:=by
 intro ts
 induction ts with
 | nil =>
   intro vs ds ps _ _ h
   obtain⟨rfl,rfl,rfl⟩:=trodAll_nil h
   exact trodAll_mk0
 | cons t ts ih =>
   intro vs ds ps ht hlt h
   obtain⟨v0,vs0,d0,ds0,p0,q0,rfl,rfl,rfl,h0,r0⟩:=trodAll_cons h
   simp only[List.all_cons,Bool.and_eq_true,decide_eq_true_eq]at ht
   refine trodAll_cons_mk (Below.trod hl ht.1.1 ht.1.2 h0 hb (fun x hx=>hlt x (by simp[hx]))) (ih ht.2 (fun x hx=>hlt x (by simp[hx])) r0)
theorem post_true(hl:laidOutB P=true){f:Func}{s:ChangeSpec}{tb:TypeId}{W W':World}{args:Array Value}{ds gs:List (DataW H)}{before:List MemPlace}
   (hts:f.params.toList.all (fun t=>P.readableRec t&&decide (t<P.types.size))=true) (hres:f.resultTypes = #[tb]) (hbool:P.underlying tb=some .bool)
   (hvars:s.vars=[]) (hfn:s.fn H (ds++gs)={ results:=[.lit (.bool true)],args:=ds })
   (hW:DataW.Whole enc P f.params.toList s.vars false W args.toList ds gs before) (bel:Below W.heap.size W W') :
   s.post enc P f false true false false W args (.bool true) W':=by
 have hW':=hW
 obtain⟨p,q,hA,hV,rfl,hfz,hnd⟩:=hW
 rw[hvars]at hV
 obtain⟨rfl,rfl⟩:=trodVars_none hV
 have hlt:∀ x∈p,x.block<W.heap.size:=fun x hx=>hW'.lt x (by simp[hx])
 refine⟨ds,[],_,[],p,[],hW', ?_, ?_, ?_,bel.frame _,fun h=>by cases h⟩
 · rw[hfn,hres];exact trodAll_mk1 (shut_bool hbool _)
 · rw[hfn];exact Zo hl bel hts hlt hA
 · rw[hfn,hvars];rfl
end
end Go.Proofs.Ytjmcjekhgpakoaa.Row
