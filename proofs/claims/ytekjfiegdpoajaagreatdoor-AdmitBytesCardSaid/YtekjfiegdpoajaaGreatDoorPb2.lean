/- Packed: Wc, Wd, We, EngR, EngS, Ya, Yb, Yc, Yd, Ye, Yf, Yk, Ym, Yg. No conditions. -/
import Derived.Test.YtekjfiegdpoajaaGreatDoorPb1
import Derived.Lib.SlBytesConst
namespace Go.Proofs.YtekjfiegdpoajaaGreatDoor.Cf
open Go Go.Proofs.YtekjfiegdpoajaaGreatDoor.Eng Go.Proofs.YtekjfiegdpoajaaGreatDoor.Mem Go.Proofs.YtekjfiegdpoajaaGreatDoor.Ly
set_option linter.unusedSimpArgs false
set_option linter.unusedVariables false
set_option maxRecDepth 100000
def Lm:List PanicEntry:=[{ v:= .iface 73 (.agg #[]),recovered:=false }]
def Dt(w:World)(F:Nat→Prop):Nat→Prop:=fun b=>b<w.heap.size∧¬ F b
theorem EP{F:Nat→Prop}{w w2:World}{b k:Nat}{v:Value}(hF:b<w2.heap.size∧¬ F b)(h:w.cell? ⟨b,k,none⟩=some v):∀ w',(old F w).holds w'→w'.cell? ⟨b,k,none⟩=some v:=TG h hF.2
theorem Yt{A:AW}{w w1:World}{F:Nat→Prop}(hW:Sat A w1)(h0:A.σ[0]? = some (old F w)):Ext (Dt w F) w w1:=fun b k v hb hv=>TG hv hb.2 w1 (hW.at h0)
theorem Y0{A:AW}{w w1:World}{F:Nat→Prop}{j:Nat}{c:Ch}(hW:Sat A w1)(h0:A.σ[0]? = some (old F w))(hn:w.heap.size≤A.n)(hj:A.σ[j]? = some c)(hr:c.rw=true)(hj0:j≠0):∀ b,Dt w F b→Dt w1 c.F b:=fun b hb=>⟨by rw[hW.size];exact Nat.lt_of_lt_of_le hb.1 hn,fun hc=>hW.two (d:=old F w) hj h0 hj0 hr b hc hb⟩
def JO(w:World)(pw:Nat)(F:Nat→Prop)(bs:List Int)(ok:Bool)(ys:List Int)(e:Ending)(w':World):Prop :=
 (ok=true∧e = .returned (.tuple #[])∧Hg w' pw (More F w w') (bs++ys)∧BH F w w')∨(ok=false∧e = .panicked Lm∧BH F w w')
theorem Kz{A:AW}{w w':World}{i pw:Nat}{F:Nat→Prop}{bs ys:List Int}{ok:Bool}{e:Ending}{kept:List Ch}(h:Sat A w)(hi:A.σ[i]? = some (DW pw F bs))(is:List Nat)(hnd:nodupB is=true)(hp:picks is A.σ=some kept)(hni:is.contains i=false)(hP:JO w pw F bs ok ys e w') :
   (∃ F',ok=true∧e = .returned (.tuple #[])∧A.n≤w'.heap.size∧Sat { A with n:=w'.heap.size,σ:=A.σ.set i (DW pw F' (bs++ys)) } w')∨(ok=false∧e = .panicked Lm∧A.n≤w'.heap.size∧Sat { A with n:=w'.heap.size,σ:=kept } w'):=by
 rcases hP with⟨h1,h2,h3,h4⟩ | ⟨h1,h2,h4⟩
 · exact .inl ⟨_,h1,h2,W9 h hi h3 h4⟩
 · right
   have hpk:picks [i] A.σ=some [DW pw F bs]:=by simp[picks,hi]
   have hS:=h.turn is [i] (new:=[]) hnd hp hpk (by
     rw[List.all_eq_true]
     intro q hq
     simp only[List.contains_cons,List.contains_nil,Bool.or_false,Bool.not_eq_true',beq_eq_false_iff_ne]
     intro e;subst e
     rw[List.contains_eq_mem]at hni
     simp[hq]at hni) (fun d hd=>by simp only[List.mem_singleton]at hd;subst hd;rfl) (w':=w') (h4.mono (fun b _ hb=>⟨_,List.mem_singleton_self _,hb⟩)) (by simp) (by simp)
   rw[List.append_nil]at hS
   exact⟨h1,h2,AY h h4,hS⟩
def Iw(n:Int):Bool:=decide (0≤n)&&decide (n≤4294967295)
theorem Ut{n:Int}(h:Iw n=true):0≤n∧n≤4294967295:=by unfold Iw at h;simpa using h
def Fp{α:Type}(ok:α→Bool)(xs:List α):Bool:=decide (xs.length≤255)&&xs.all ok
def Bj{α:Type}(enc:α→List Int)(xs:List α):List Int:=[(xs.length:Int)]++xs.flatMap enc
def KC(s:ByteArray):List Int:=leB (s.size:Nat) 4++JZ s
def okW(x:A7):Bool:=decide (-1≤x.Partition)&&Iw (IntKind.i64.wrap (x.Partition+1))&&Iw x.Bq&&Iw x.AC
def MG(x:A7):List Int:=leB (IntKind.i64.wrap (x.Partition+1)) 4++leB x.Bq 4++leB x.AC 4
def okR(x:AX):Bool:=Iw x.CO&&Iw x.BO&&Iw x.Frame&&Iw x.EM
def encR(x:AX):List Int:=leB x.CO 4++leB x.BO 4++leB x.Frame 4++leB x.EM 4
def UA(x:BR):Bool:=Iw x.Channel
def KF(x:BR):List Int:=leB x.Channel 4++[if x.Source then 1 else 0]
def TQ(x:AQ):Bool:=Iw x.Kind&&Iw x.Words&&Iw x.Dj
def Fj(x:AQ):List Int:=leB x.Kind 4++leB x.Words 4++leB x.Dj 4
def Sj(x:Sl A7):Bool:=Fp okW x.xs
def ER(x:Sl A7):List Int:=Bj MG x.xs
def Nj(x:Ap):List Int:=[x.Entry,x.Dz,x.AU,x.Dx,x.AZ]
def Lr(x:Ap):Bool:=decide (x.Name.size≤255)&&(Nj x).all Iw&&Fp okR x.Ah.xs&&Fp UA x.Aq.xs
def encPt(x:Ap):List Int:=KC x.Name++(Nj x).flatMap (fun n=>leB n 4)++Bj encR x.Ah.xs++Bj KF x.Aq.xs
theorem Zbi(x:A7):(MG x).length=12:=by unfold MG;simp only[List.length_append,CV]
theorem TR(x:AX):(encR x).length=16:=by unfold encR;simp only[List.length_append,CV]
theorem Vw(x:BR):(KF x).length=5:=by unfold KF;simp only[List.length_append,CV,List.length_cons,List.length_nil]
theorem VG(x:AQ):(Fj x).length=12:=by unfold Fj;simp only[List.length_append,CV]
theorem LK{α β:Type}[Inhabited α]{enc:α→List β}{xs:List α}{i:Nat}(h:i<xs.length):(xs.take (i+1)).flatMap enc=(xs.take i).flatMap enc++enc (gd xs i):=by
 rw[List.take_succ_eq_append_getElem h,List.flatMap_append,E5 h];simp
theorem NR{α β:Type}[Inhabited α]{enc:α→List β}{K:Nat}{xs:List α}:∀ (i:Nat),i≤xs.length→(∀ q,q<i→(enc (gd xs q)).length≤K)→((xs.take i).flatMap enc).length≤i*K
 | 0,_,_=>by simp
 | i+1,hi,h=>by
  have h1:=NR (enc:=enc) i (by omega) (fun q hq=>h q (by omega))
  have h2:=h i (by omega)
  rw[LK (by omega),List.length_append,Nat.succ_mul];omega
theorem Oi{p:Nat→Prop}{i:Nat}(h:∀ q,q<i→p q)(hi:p i):∀ q,q<i+1→p q:=by
 intro q hq
 by_cases e:q=i
 ·subst e;exact hi
 exact h q (by omega)
theorem PV{α:Type}[Inhabited α]{ok:α→Bool}{xs:List α}(h:∀ q,q<xs.length→ok (gd xs q)=true):xs.all ok=true:=by
 rw[List.all_eq_true]
 intro x hx
 obtain⟨i,hi,rfl⟩:=List.getElem_of_mem hx
 have:=h i hi
 rwa [E5 hi]at this
theorem Ov{α:Type}[Inhabited α]{ok:α→Bool}{xs:List α}{i:Nat}(hi:i<xs.length)(h:ok (gd xs i)=false):xs.all ok=false:=by
 rw[List.all_eq_false]
 rw[E5 hi]at h
 exact⟨xs[i],List.getElem_mem hi,by simp[h]⟩
theorem Ti{α:Type}[Inhabited α]{ok:α→Bool}{xs:List α}(hl:xs.length≤255)(h:∀ q,q<xs.length→ok (gd xs q)=true):Fp ok xs=true:=by
 unfold Fp;rw[PV h];simpa using hl
theorem SI{α:Type}{ok:α→Bool}{xs:List α}(hl:¬ xs.length≤255):Fp ok xs=false:=by
 unfold Fp;rw[decide_eq_false hl];rfl
theorem SL{α:Type}[Inhabited α]{ok:α→Bool}{xs:List α}{i:Nat}(hi:i<xs.length)(h:ok (gd xs i)=false):Fp ok xs=false:=by
 unfold Fp;rw[Ov hi h,Bool.and_false]
theorem KW{α:Type}{ok:α→Bool}{xs:List α}(h:Fp ok xs=true):xs.length≤255:=by
 unfold Fp at h;simp only[Bool.and_eq_true,decide_eq_true_eq]at h;exact h.1
theorem O6{α:Type}[Inhabited α]{enc:α→List Int}{K:Nat}{xs:List α}(h:∀ q,q<xs.length→(enc (gd xs q)).length≤K):(Bj enc xs).length≤1+xs.length*K:=by
 have:=NR (enc:=enc) xs.length (Nat.le_refl _) h
 rw[List.take_length]at this
 unfold Bj
 rw[List.length_append]
 simp only[List.length_cons,List.length_nil];omega
theorem encWs_le{x:Sl A7}(h:Sj x=true):(ER x).length≤3061:=by
 have h1:=KW h
 have h2:=O6 (enc:=MG) (K:=12) (xs:=x.xs) (fun q _=>by rw[Zbi];exact Nat.le_refl _)
 unfold ER;omega
theorem ZaQ{x:Ap}(h:Lr x=true):(encPt x).length≤6000:=by
 unfold Lr at h
 simp only[Bool.and_eq_true,decide_eq_true_eq]at h
 obtain⟨⟨⟨h1, -⟩,h3⟩,h4⟩:=h
 have h5:=KW h3
 have h6:=KW h4
 have h7:=O6 (enc:=encR) (K:=16) (xs:=x.Ah.xs) (fun q _=>by rw[TR];exact Nat.le_refl _)
 have h8:=O6 (enc:=KF) (K:=5) (xs:=x.Aq.xs) (fun q _=>by rw[Vw];exact Nat.le_refl _)
 unfold encPt KC Nj
 simp only[List.length_append,CV,TW,List.flatMap_cons,List.flatMap_nil,List.length_nil]
 omega
theorem gd5{x:Ap}{i:Nat}(h:i<5):(#[Value.int .i64 x.Entry,.int .i64 x.Dz,.int .i64 x.AU,.int .i64 x.Dx,.int .i64 x.AZ]:Array Value)[GI 1 i]? = some (.int .i64 (gd (Nj x) i)):=by
 rcases(by omega:i=0∨i=1∨i=2∨i=3∨i=4)with rfl | rfl | rfl | rfl | rfl <;> rfl
theorem Zbk(w:World)(pw:Nat)(F:Nat→Prop)(bs:List Int)(hw:Hg w pw F bs)(n:Int)(hl:bs.length+4≤2147483647):Calls Tryz.prog 32 #[.agg #[.pointer (some ⟨pw,0,none⟩)],.int .i64 n] w fun e w'=>JO w pw F bs (Iw n) (leB n 4) e w':=by
 obtain⟨z,hz⟩:∃ z,z=w.heap.size:=⟨_,rfl⟩
 refine BA (args:=[.agg #[pt pw],i6 n]) 17 ⟨w,z,[(old F w),(DW pw F bs)]⟩ Tryz.func32 rfl (by kernel_rfl) (by kernel_rfl) (hz ▸ Jl hw) ?_
 refine Cc [0,1] [(0,.agg #[pt pw]),(1,i6 n)] ?_
 refine q_c 6 0 [] [[o0]] [] [(1,i6 n),(2,pt z)] ⟨w,z+1,[(old F w),(DW pw F bs),(bk z #[pt pw] 77)]⟩ rfl Ae ?_
 by_cases h1:(n:Int)<0
 ·refine A8 5 2 [1] [[o0,oT,o0,o0],[o0,o0]] [BT ((n:Int)<0)] [(1,i6 n),(2,pt z),(11,.iface 73 (.agg #[]))] rfl ⟨bt,Ae⟩ ?_
  refine I7 (.iface 73 (.agg #[])) ?_
  refine BM ?_
  intro w2 hw2
  refine .inr ⟨(Bool.eq_false_iff.2 (by unfold Iw;simp only[ne_eq,Bool.and_eq_true,decide_eq_true_eq];omega)),rfl,Au hw2⟩
 by_cases h3:(4294967295:Int)<n
 ·refine A8 5 2 [1] [[o0,oF,o0,o0,oT,o0],[o0,o0]] [BF ((n:Int)<0),BT ((n:Int) > 4294967295)] [(1,i6 n),(2,pt z),(11,.iface 73 (.agg #[]))] rfl ⟨bf,bt,Ae⟩ ?_
  refine I7 (.iface 73 (.agg #[])) ?_
  refine BM ?_
  intro w4 hw4
  refine .inr ⟨(Bool.eq_false_iff.2 (by unfold Iw;simp only[ne_eq,Bool.and_eq_true,decide_eq_true_eq];omega)),rfl,Au hw4⟩
 refine A8 7 4 [0] [[o0,oF,o0,o0,oF,o0],[o0,(a1 2),o0,(ov (.int .u32 n))]] [BF ((n:Int)<0),BF ((n:Int) > 4294967295),Qb z,Value.int .u32 (IntKind.u32.wrap (n))=Value.int .u32 (n)] [(13,pt pw),(15,.int .u32 n)] rfl ⟨bf,bf,rfl,congrArg (Value.int .u32) (Ub rfl (by omega) (by omega)),Ae⟩ ?_
 refine l_call [] [] 31 #[pt pw,.int .u32 n] (some 16) Ae ?_
 intro w5 hw5
 refine(Xy hw5 (i:=1) rfl n (by omega) (by first | omega | (simp only[List.length_append,CV,List.length_cons,List.length_nil];omega))).mono ?_
 rintro e w7 ⟨F6,rfl,hmw7,hSw7⟩;have hnw7:z+1≤w7.heap.size:=hmw7
 refine⟨_,_,rfl,hSw7, ?_⟩
 refine CZ [] [] ?_
 refine LX (by kernel_rfl) ?_
 -- the function's end
 refine KR [] [] (.tuple #[]) Ae ?_
 intro w8 hw8
 have hD:=JX hw8 rfl (show w.heap.size≤w7.heap.size by omega) rfl (j:=1) rfl (by decide) hw
 exact .inl ⟨(by unfold Iw;simp only[Bool.and_eq_true,decide_eq_true_eq];omega),rfl,hD⟩
theorem Ip{A:AW}{w:World}{i pw:Nat}{F:Nat→Prop}{bs:List Int}{kept:List Ch}(h:Sat A w)(is:List Nat)(hi:A.σ[i]? = some (DW pw F bs))(hnd:nodupB is=true)(hp:picks is A.σ=some kept)(hni:is.contains i=false)(n:Int)(hl:bs.length+4≤2147483647):Calls Tryz.prog 32 #[.agg #[.pointer (some ⟨pw,0,none⟩)],.int .i64 n] w fun e w'=>(∃ F',Iw n=true∧e = .returned (.tuple #[])∧A.n≤w'.heap.size∧Sat { A with n:=w'.heap.size,σ:=A.σ.set i (DW pw F' (bs++leB n 4)) } w')∨(Iw n=false∧e = .panicked Lm∧A.n≤w'.heap.size∧Sat { A with n:=w'.heap.size,σ:=kept } w') :=
 (Zbk w pw F bs (h.at hi) n hl).mono (fun e w' hP=>Kz h hi is hnd hp hni hP)
theorem name_calls(w:World)(pw:Nat)(F:Nat→Prop)(bs:List Int)(hw:Hg w pw F bs)(t:ByteArray)(hl:bs.length+300≤2147483647):Calls Tryz.prog 64 #[.agg #[.pointer (some ⟨pw,0,none⟩)],.string t] w fun e w'=>JO w pw F bs (decide (t.size≤255)) (KC t) e w':=by
 obtain⟨z,hz⟩:∃ z,z=w.heap.size:=⟨_,rfl⟩
 refine BA (args:=[.agg #[pt pw],.string t]) 13 ⟨w,z,[(old F w),(DW pw F bs)]⟩ Tryz.func64 rfl (by kernel_rfl) (by kernel_rfl) (hz ▸ Jl hw) ?_
 refine Cc [0,1] [(0,.agg #[pt pw]),(1,.string t)] ?_
 refine q_c 6 0 [] [[o0]] [] [(1,.string t),(2,pt z)] ⟨w,z+1,[(old F w),(DW pw F bs),(bk z #[pt pw] 77)]⟩ rfl Ae ?_
 by_cases h1:(255:Int)<(t.size:Int)
 ·refine A8 5 2 [1] [[o0,o0,oT],[o0,o0]] [BT ((t.size:Int) > 255)] [(1,.string t),(2,pt z),(8,.iface 73 (.agg #[]))] rfl ⟨bt,Ae⟩ ?_
  refine I7 (.iface 73 (.agg #[])) ?_
  refine BM ?_
  intro w2 hw2
  refine .inr ⟨(decide_eq_false (by omega)),rfl,Au hw2⟩
 refine A8 7 3 [0] [[o0,o0,oF],[o0,(a1 2),o0]] [BF ((t.size:Int) > 255),Qb z] [(10,pt pw),(11,.string t)] rfl ⟨bf,rfl,Ae⟩ ?_
 refine l_call [] [] 107 #[pt pw,.string t] (some 12) Ae ?_
 intro w3 hw3
 refine(text_sat hw3 (i:=1) rfl t (by omega) (by first | omega | (simp only[List.length_append,CV,List.length_cons,List.length_nil];omega))).mono ?_
 rintro e w5 ⟨F4,rfl,hmw5,hSw5⟩;have hnw5:z+1≤w5.heap.size:=hmw5
 refine⟨_,_,rfl,hSw5, ?_⟩
 refine CZ [] [] ?_
 refine LX (by kernel_rfl) ?_
 -- the function's end
 refine KR [] [] (.tuple #[]) Ae ?_
 intro w6 hw6
 have hD:=JX hw6 rfl (show w.heap.size≤w5.heap.size by omega) rfl (j:=1) rfl (by decide) hw
 exact .inl ⟨(decide_eq_true (by omega)),rfl,hD⟩
theorem name_satP{A:AW}{w:World}{i pw:Nat}{F:Nat→Prop}{bs:List Int}{kept:List Ch}(h:Sat A w)(is:List Nat)(hi:A.σ[i]? = some (DW pw F bs))(hnd:nodupB is=true)(hp:picks is A.σ=some kept)(hni:is.contains i=false)(t:ByteArray)(hl:bs.length+300≤2147483647):Calls Tryz.prog 64 #[.agg #[.pointer (some ⟨pw,0,none⟩)],.string t] w fun e w'=>(∃ F',decide (t.size≤255)=true∧e = .returned (.tuple #[])∧A.n≤w'.heap.size∧Sat { A with n:=w'.heap.size,σ:=A.σ.set i (DW pw F' (bs++KC t)) } w')∨(decide (t.size≤255)=false∧e = .panicked Lm∧A.n≤w'.heap.size∧Sat { A with n:=w'.heap.size,σ:=kept } w') :=
 (name_calls w pw F bs (h.at hi) t hl).mono (fun e w' hP=>Kz h hi is hnd hp hni hP)
theorem ZaY(w:World)(pw:Nat)(F:Nat→Prop)(bs:List Int)(hw:Hg w pw F bs)(x:A7)(hl:bs.length+12≤2147483647):Calls Tryz.prog 63 #[.agg #[.pointer (some ⟨pw,0,none⟩)],.agg (A7.arr x)] w fun e w'=>JO w pw F bs (okW x) (MG x) e w':=by
 obtain⟨z,hz⟩:∃ z,z=w.heap.size:=⟨_,rfl⟩
 refine BA (args:=[.agg #[pt pw],.agg (A7.arr x)]) 22 ⟨w,z,[(old F w),(DW pw F bs)]⟩ Tryz.func63 rfl (by kernel_rfl) (by kernel_rfl) (hz ▸ Jl hw) ?_
 refine Cc [0,1] [(0,.agg #[pt pw]),(1,.agg (A7.arr x))] ?_
 refine q_c 6 0 [] [[o0,o0]] [] [(2,pt z),(3,pt (z+1))] ⟨w,z+2,[(old F w),(DW pw F bs),(bk z #[pt pw] 77),(bk (z+1) (A7.arr x) 52)]⟩ rfl Ae ?_
 by_cases h1:(x.Partition:Int) < -1
 ·refine A8 5 2 [1] [[o0,(a1 3),oT],[o0,o0]] [Qb (z+1),BT ((x.Partition:Int)<(-1))] [(2,pt z),(3,pt (z+1)),(8,.iface 73 (.agg #[]))] rfl ⟨rfl,bt,Ae⟩ ?_
  refine I7 (.iface 73 (.agg #[])) ?_
  refine BM ?_
  intro w2 hw2
  refine .inr ⟨(by unfold okW;rw[decide_eq_false (by omega:¬ -1≤x.Partition)];simp),rfl,Au hw2⟩
 refine A8 8 4 [0] [[o0,(a1 3),oF],[(a1 2),o0,(a1 3),o0]] [Qb (z+1),BF ((x.Partition:Int)<(-1)),Qb z,Qb (z+1)] [(2,pt z),(3,pt (z+1)),(9,.agg #[pt pw]),(12,i6 (IntKind.i64.wrap (x.Partition+1)))] rfl ⟨rfl,bf,rfl,rfl,Ae⟩ ?_
 refine DT [] [] 32 #[.agg #[pt pw],i6 (IntKind.i64.wrap (x.Partition+1))] (some 13) Ae ?_
 intro w3 hw3
 refine(Ip hw3 (i:=1) [0,2,3] rfl rfl rfl rfl (IntKind.i64.wrap (x.Partition+1)) (by first | omega | (simp only[List.length_append,CV,List.length_cons,List.length_nil];omega))).mono ?_
 rintro e w5 (⟨F4,ho6,rfl,hmw5,hSw5⟩ | ⟨ho6,rfl,hmw5,hSw5⟩)
 ·have hnw5:z+2≤w5.heap.size:=hmw5
  refine .inl ⟨_,_,rfl,hSw5, ?_⟩
  refine Bv 4 3 [] [[],[(a1 2),o0,(a1 3)]] [Qb z,Qb (z+1)] [(2,pt z),(3,pt (z+1)),(14,.agg #[pt pw]),(16,i6 x.Bq)] rfl ⟨rfl,rfl,Ae⟩ ?_
  refine DT [] [] 32 #[.agg #[pt pw],i6 x.Bq] (some 17) Ae ?_
  intro w7 hw7
  refine(Ip hw7 (i:=1) [0,2,3] rfl rfl rfl rfl x.Bq (by first | omega | (simp only[List.length_append,CV,List.length_cons,List.length_nil];omega))).mono ?_
  rintro e w9 (⟨F8,ho10,rfl,hmw9,hSw9⟩ | ⟨ho10,rfl,hmw9,hSw9⟩)
  ·have hnw9:w5.heap.size≤w9.heap.size:=hmw9
   refine .inl ⟨_,_,rfl,hSw9, ?_⟩
   refine Bv 3 3 [] [[],[(a1 2),o0,(a1 3)]] [Qb z,Qb (z+1)] [(18,.agg #[pt pw]),(20,i6 x.AC)] rfl ⟨rfl,rfl,Ae⟩ ?_
   refine DT [] [] 32 #[.agg #[pt pw],i6 x.AC] (some 21) Ae ?_
   intro w11 hw11
   refine(Ip hw11 (i:=1) [0,2,3] rfl rfl rfl rfl x.AC (by first | omega | (simp only[List.length_append,CV,List.length_cons,List.length_nil];omega))).mono ?_
   rintro e w13 (⟨F12,ho14,rfl,hmw13,hSw13⟩ | ⟨ho14,rfl,hmw13,hSw13⟩)
   ·have hnw13:w9.heap.size≤w13.heap.size:=hmw13
    refine .inl ⟨_,_,rfl,hSw13, ?_⟩
    refine CZ [] [] ?_
    refine LX (by kernel_rfl) ?_
    -- the function's end
    refine KR [] [] (.tuple #[]) Ae ?_
    intro w15 hw15
    have hD:=JX hw15 rfl (show w.heap.size≤w13.heap.size by omega) rfl (j:=1) rfl (by decide) hw
    rw[show(((bs++leB (IntKind.i64.wrap (x.Partition+1)) 4)++leB x.Bq 4)++leB x.AC 4)=bs++MG x from by unfold MG;simp only[List.append_assoc]]at hD
    exact .inl ⟨(by unfold okW;rw[ho6,ho10,ho14,decide_eq_true (by omega : -1≤x.Partition)];rfl),rfl,hD⟩
   have hnw13:w9.heap.size≤w13.heap.size:=hmw13
   refine .inr ⟨_,_,rfl,hSw13, ?_⟩
   refine BM ?_
   intro w16 hw16
   refine .inr ⟨(by unfold okW;rw[ho14];simp),rfl,Au hw16⟩
  have hnw9:w5.heap.size≤w9.heap.size:=hmw9
  refine .inr ⟨_,_,rfl,hSw9, ?_⟩
  refine BM ?_
  intro w17 hw17
  refine .inr ⟨(by unfold okW;rw[ho10];simp),rfl,Au hw17⟩
 have hnw5:z+2≤w5.heap.size:=hmw5
 refine .inr ⟨_,_,rfl,hSw5, ?_⟩
 refine BM ?_
 intro w18 hw18
 refine .inr ⟨(by unfold okW;rw[ho6];simp),rfl,Au hw18⟩
theorem window_satP{A:AW}{w:World}{i pw:Nat}{F:Nat→Prop}{bs:List Int}{kept:List Ch}(h:Sat A w)(is:List Nat)(hi:A.σ[i]? = some (DW pw F bs))(hnd:nodupB is=true)(hp:picks is A.σ=some kept)(hni:is.contains i=false)(x:A7)(hl:bs.length+12≤2147483647):Calls Tryz.prog 63 #[.agg #[.pointer (some ⟨pw,0,none⟩)],.agg (A7.arr x)] w fun e w'=>(∃ F',okW x=true∧e = .returned (.tuple #[])∧A.n≤w'.heap.size∧Sat { A with n:=w'.heap.size,σ:=A.σ.set i (DW pw F' (bs++MG x)) } w')∨(okW x=false∧e = .panicked Lm∧A.n≤w'.heap.size∧Sat { A with n:=w'.heap.size,σ:=kept } w') :=
 (ZaY w pw F bs (h.at hi) x hl).mono (fun e w' hP=>Kz h hi is hnd hp hni hP)
theorem Uc(w:World)(pw:Nat)(F:Nat→Prop)(bs:List Int)(hw:Hg w pw F bs)(x:AX)(hl:bs.length+16≤2147483647):Calls Tryz.prog 66 #[.agg #[.pointer (some ⟨pw,0,none⟩)],.agg (AX.arr x)] w fun e w'=>JO w pw F bs (okR x) (encR x) e w':=by
 obtain⟨z,hz⟩:∃ z,z=w.heap.size:=⟨_,rfl⟩
 refine BA (args:=[.agg #[pt pw],.agg (AX.arr x)]) 20 ⟨w,z,[(old F w),(DW pw F bs)]⟩ Tryz.func66 rfl (by kernel_rfl) (by kernel_rfl) (hz ▸ Jl hw) ?_
 refine Cc [0,1] [(0,.agg #[pt pw]),(1,.agg (AX.arr x))] ?_
 refine q_c 6 3 [] [[o0,o0],[(a1 2),o0,(a1 3)]] [Qb z,Qb (z+1)] [(2,pt z),(3,pt (z+1)),(4,.agg #[pt pw]),(6,i6 x.CO)] ⟨w,z+2,[(old F w),(DW pw F bs),(bk z #[pt pw] 77),(bk (z+1) (AX.arr x) 64)]⟩ rfl ⟨rfl,rfl,Ae⟩ ?_
 refine DT [] [] 32 #[.agg #[pt pw],i6 x.CO] (some 7) Ae ?_
 intro w1 hw1
 refine(Ip hw1 (i:=1) [0,2,3] rfl rfl rfl rfl x.CO (by first | omega | (simp only[List.length_append,CV,List.length_cons,List.length_nil];omega))).mono ?_
 rintro e w3 (⟨F2,ho4,rfl,hmw3,hSw3⟩ | ⟨ho4,rfl,hmw3,hSw3⟩)
 ·have hnw3:z+2≤w3.heap.size:=hmw3
  refine .inl ⟨_,_,rfl,hSw3, ?_⟩
  refine Bv 4 3 [] [[],[(a1 2),o0,(a1 3)]] [Qb z,Qb (z+1)] [(2,pt z),(3,pt (z+1)),(8,.agg #[pt pw]),(10,i6 x.BO)] rfl ⟨rfl,rfl,Ae⟩ ?_
  refine DT [] [] 32 #[.agg #[pt pw],i6 x.BO] (some 11) Ae ?_
  intro w5 hw5
  refine(Ip hw5 (i:=1) [0,2,3] rfl rfl rfl rfl x.BO (by first | omega | (simp only[List.length_append,CV,List.length_cons,List.length_nil];omega))).mono ?_
  rintro e w7 (⟨F6,ho8,rfl,hmw7,hSw7⟩ | ⟨ho8,rfl,hmw7,hSw7⟩)
  ·have hnw7:w3.heap.size≤w7.heap.size:=hmw7
   refine .inl ⟨_,_,rfl,hSw7, ?_⟩
   refine Bv 4 3 [] [[],[(a1 2),o0,(a1 3)]] [Qb z,Qb (z+1)] [(2,pt z),(3,pt (z+1)),(12,.agg #[pt pw]),(14,i6 x.Frame)] rfl ⟨rfl,rfl,Ae⟩ ?_
   refine DT [] [] 32 #[.agg #[pt pw],i6 x.Frame] (some 15) Ae ?_
   intro w9 hw9
   refine(Ip hw9 (i:=1) [0,2,3] rfl rfl rfl rfl x.Frame (by first | omega | (simp only[List.length_append,CV,List.length_cons,List.length_nil];omega))).mono ?_
   rintro e w11 (⟨F10,ho12,rfl,hmw11,hSw11⟩ | ⟨ho12,rfl,hmw11,hSw11⟩)
   ·have hnw11:w7.heap.size≤w11.heap.size:=hmw11
    refine .inl ⟨_,_,rfl,hSw11, ?_⟩
    refine Bv 3 3 [] [[],[(a1 2),o0,(a1 3)]] [Qb z,Qb (z+1)] [(16,.agg #[pt pw]),(18,i6 x.EM)] rfl ⟨rfl,rfl,Ae⟩ ?_
    refine DT [] [] 32 #[.agg #[pt pw],i6 x.EM] (some 19) Ae ?_
    intro w13 hw13
    refine(Ip hw13 (i:=1) [0,2,3] rfl rfl rfl rfl x.EM (by first | omega | (simp only[List.length_append,CV,List.length_cons,List.length_nil];omega))).mono ?_
    rintro e w15 (⟨F14,ho16,rfl,hmw15,hSw15⟩ | ⟨ho16,rfl,hmw15,hSw15⟩)
    ·have hnw15:w11.heap.size≤w15.heap.size:=hmw15
     refine .inl ⟨_,_,rfl,hSw15, ?_⟩
     refine CZ [] [] ?_
     refine LX (by kernel_rfl) ?_
     -- the function's end
     refine KR [] [] (.tuple #[]) Ae ?_
     intro w17 hw17
     have hD:=JX hw17 rfl (show w.heap.size≤w15.heap.size by omega) rfl (j:=1) rfl (by decide) hw
     rw[show((((bs++leB x.CO 4)++leB x.BO 4)++leB x.Frame 4)++leB x.EM 4)=bs++encR x from by unfold encR;simp only[List.append_assoc]]at hD
     exact .inl ⟨(by unfold okR;rw[ho4,ho8,ho12,ho16] <;> rfl),rfl,hD⟩
    have hnw15:w11.heap.size≤w15.heap.size:=hmw15
    refine .inr ⟨_,_,rfl,hSw15, ?_⟩
    refine BM ?_
    intro w18 hw18
    refine .inr ⟨(by unfold okR;rw[ho16] <;> simp),rfl,Au hw18⟩
   have hnw11:w7.heap.size≤w11.heap.size:=hmw11
   refine .inr ⟨_,_,rfl,hSw11, ?_⟩
   refine BM ?_
   intro w19 hw19
   refine .inr ⟨(by unfold okR;rw[ho12] <;> simp),rfl,Au hw19⟩
  have hnw7:w3.heap.size≤w7.heap.size:=hmw7
  refine .inr ⟨_,_,rfl,hSw7, ?_⟩
  refine BM ?_
  intro w20 hw20
  refine .inr ⟨(by unfold okR;rw[ho8] <;> simp),rfl,Au hw20⟩
 have hnw3:z+2≤w3.heap.size:=hmw3
 refine .inr ⟨_,_,rfl,hSw3, ?_⟩
 refine BM ?_
 intro w21 hw21
 refine .inr ⟨(by unfold okR;rw[ho4] <;> simp),rfl,Au hw21⟩
theorem region_satP{A:AW}{w:World}{i pw:Nat}{F:Nat→Prop}{bs:List Int}{kept:List Ch}(h:Sat A w)(is:List Nat)(hi:A.σ[i]? = some (DW pw F bs))(hnd:nodupB is=true)(hp:picks is A.σ=some kept)(hni:is.contains i=false)(x:AX)(hl:bs.length+16≤2147483647):Calls Tryz.prog 66 #[.agg #[.pointer (some ⟨pw,0,none⟩)],.agg (AX.arr x)] w fun e w'=>(∃ F',okR x=true∧e = .returned (.tuple #[])∧A.n≤w'.heap.size∧Sat { A with n:=w'.heap.size,σ:=A.σ.set i (DW pw F' (bs++encR x)) } w')∨(okR x=false∧e = .panicked Lm∧A.n≤w'.heap.size∧Sat { A with n:=w'.heap.size,σ:=kept } w') :=
 (Uc w pw F bs (h.at hi) x hl).mono (fun e w' hP=>Kz h hi is hnd hp hni hP)
theorem VJ(w:World)(pw:Nat)(F:Nat→Prop)(bs:List Int)(hw:Hg w pw F bs)(x:BR)(hl:bs.length+5≤2147483647):Calls Tryz.prog 68 #[.agg #[.pointer (some ⟨pw,0,none⟩)],.agg (BR.arr x)] w fun e w'=>JO w pw F bs (UA x) (KF x) e w':=by
 obtain⟨z,hz⟩:∃ z,z=w.heap.size:=⟨_,rfl⟩
 refine BA (args:=[.agg #[pt pw],.agg (BR.arr x)]) 16 ⟨w,z,[(old F w),(DW pw F bs)]⟩ Tryz.func68 rfl (by kernel_rfl) (by kernel_rfl) (hz ▸ Jl hw) ?_
 refine Cc [0,1] [(0,.agg #[pt pw]),(1,.agg (BR.arr x))] ?_
 refine q_c 6 3 [] [[o0,o0],[(a1 2),o0,(a1 3)]] [Qb z,Qb (z+1)] [(2,pt z),(3,pt (z+1)),(4,.agg #[pt pw]),(6,i6 x.Channel)] ⟨w,z+2,[(old F w),(DW pw F bs),(bk z #[pt pw] 77),(bk (z+1) (BR.arr x) 67)]⟩ rfl ⟨rfl,rfl,Ae⟩ ?_
 refine DT [] [] 32 #[.agg #[pt pw],i6 x.Channel] (some 7) Ae ?_
 intro w1 hw1
 refine(Ip hw1 (i:=1) [0,2,3] rfl rfl rfl rfl x.Channel (by first | omega | (simp only[List.length_append,CV,List.length_cons,List.length_nil];omega))).mono ?_
 rintro e w3 (⟨F2,ho4,rfl,hmw3,hSw3⟩ | ⟨ho4,rfl,hmw3,hSw3⟩)
 ·have hnw3:z+2≤w3.heap.size:=hmw3
  refine .inl ⟨_,_,rfl,hSw3, ?_⟩
  refine Bv 6 0 [] [[],[o0,(a1 3)]] [Qb (z+1)] [(2,pt z),(9,.bool x.Source)] rfl ⟨rfl,Ae⟩ ?_
  by_cases h5:x.Source=true
  ·refine A8 2 2 [3] [[o0,(a1 2)]] [Value.bool x.Source=Value.bool true,Qb z] [(11,pt pw)] rfl ⟨(congrArg Value.bool h5),rfl,Ae⟩ ?_
   refine l_call [] [] 61 #[pt pw,.int .u8 1] (some 12) Ae ?_
   intro w6 hw6
   refine(RY hw6 (i:=1) rfl 1 (by omega) (by first | omega | (simp only[List.length_append,CV,List.length_cons,List.length_nil];omega))).mono ?_
   rintro e w8 ⟨F7,rfl,hmw8,hSw8⟩;have hnw8:w3.heap.size≤w8.heap.size:=hmw8
   refine⟨_,_,rfl,hSw8, ?_⟩
   refine CZ [] [] ?_
   refine LX (by kernel_rfl) ?_
   -- the function's end
   refine KR [] [] (.tuple #[]) Ae ?_
   intro w9 hw9
   have hD:=JX hw9 rfl (show w.heap.size≤w8.heap.size by omega) rfl (j:=1) rfl (by decide) hw
   rw[show((bs++leB x.Channel 4)++[1])=bs++KF x from by unfold KF;rw[h5];simp only[List.append_assoc];rfl]at hD
   exact .inl ⟨(by unfold UA;rw[ho4] <;> rfl),rfl,hD⟩
  refine A8 2 2 [2] [[o0,(a1 2)]] [Value.bool x.Source=Value.bool false,Qb z] [(14,pt pw)] rfl ⟨(congrArg Value.bool (Bool.eq_false_iff.2 h5)),rfl,Ae⟩ ?_
  refine l_call [] [] 61 #[pt pw,.int .u8 0] (some 15) Ae ?_
  intro w10 hw10
  refine(RY hw10 (i:=1) rfl 0 (by omega) (by first | omega | (simp only[List.length_append,CV,List.length_cons,List.length_nil];omega))).mono ?_
  rintro e w12 ⟨F11,rfl,hmw12,hSw12⟩;have hnw12:w3.heap.size≤w12.heap.size:=hmw12
  refine⟨_,_,rfl,hSw12, ?_⟩
  refine CZ [] [] ?_
  refine LX (by kernel_rfl) ?_
  -- the function's end
  refine KR [] [] (.tuple #[]) Ae ?_
  intro w13 hw13
  have hD:=JX hw13 rfl (show w.heap.size≤w12.heap.size by omega) rfl (j:=1) rfl (by decide) hw
  rw[show((bs++leB x.Channel 4)++[0])=bs++KF x from by unfold KF;rw[Bool.eq_false_iff.2 h5];simp only[List.append_assoc];rfl]at hD
  exact .inl ⟨(by unfold UA;rw[ho4] <;> rfl),rfl,hD⟩
 have hnw3:z+2≤w3.heap.size:=hmw3
 refine .inr ⟨_,_,rfl,hSw3, ?_⟩
 refine BM ?_
 intro w14 hw14
 refine .inr ⟨(by unfold UA;rw[ho4] <;> simp),rfl,Au hw14⟩
theorem port_satP{A:AW}{w:World}{i pw:Nat}{F:Nat→Prop}{bs:List Int}{kept:List Ch}(h:Sat A w)(is:List Nat)(hi:A.σ[i]? = some (DW pw F bs))(hnd:nodupB is=true)(hp:picks is A.σ=some kept)(hni:is.contains i=false)(x:BR)(hl:bs.length+5≤2147483647):Calls Tryz.prog 68 #[.agg #[.pointer (some ⟨pw,0,none⟩)],.agg (BR.arr x)] w fun e w'=>(∃ F',UA x=true∧e = .returned (.tuple #[])∧A.n≤w'.heap.size∧Sat { A with n:=w'.heap.size,σ:=A.σ.set i (DW pw F' (bs++KF x)) } w')∨(UA x=false∧e = .panicked Lm∧A.n≤w'.heap.size∧Sat { A with n:=w'.heap.size,σ:=kept } w') :=
 (VJ w pw F bs (h.at hi) x hl).mono (fun e w' hP=>Kz h hi is hnd hp hni hP)
theorem Sm(w:World)(pw:Nat)(F:Nat→Prop)(bs:List Int)(hw:Hg w pw F bs)(x:AQ)(hl:bs.length+12≤2147483647):Calls Tryz.prog 38 #[.agg #[.pointer (some ⟨pw,0,none⟩)],.agg (AQ.arr x)] w fun e w'=>JO w pw F bs (TQ x) (Fj x) e w':=by
 obtain⟨z,hz⟩:∃ z,z=w.heap.size:=⟨_,rfl⟩
 refine BA (args:=[.agg #[pt pw],.agg (AQ.arr x)]) 16 ⟨w,z,[(old F w),(DW pw F bs)]⟩ Tryz.func38 rfl (by kernel_rfl) (by kernel_rfl) (hz ▸ Jl hw) ?_
 refine Cc [0,1] [(0,.agg #[pt pw]),(1,.agg (AQ.arr x))] ?_
 refine q_c 6 3 [] [[o0,o0],[(a1 2),o0,(a1 3)]] [Qb z,Qb (z+1)] [(2,pt z),(3,pt (z+1)),(4,.agg #[pt pw]),(6,i6 x.Kind)] ⟨w,z+2,[(old F w),(DW pw F bs),(bk z #[pt pw] 77),(bk (z+1) (AQ.arr x) 49)]⟩ rfl ⟨rfl,rfl,Ae⟩ ?_
 refine DT [] [] 32 #[.agg #[pt pw],i6 x.Kind] (some 7) Ae ?_
 intro w1 hw1
 refine(Ip hw1 (i:=1) [0,2,3] rfl rfl rfl rfl x.Kind (by first | omega | (simp only[List.length_append,CV,List.length_cons,List.length_nil];omega))).mono ?_
 rintro e w3 (⟨F2,ho4,rfl,hmw3,hSw3⟩ | ⟨ho4,rfl,hmw3,hSw3⟩)
 ·have hnw3:z+2≤w3.heap.size:=hmw3
  refine .inl ⟨_,_,rfl,hSw3, ?_⟩
  refine Bv 4 3 [] [[],[(a1 2),o0,(a1 3)]] [Qb z,Qb (z+1)] [(2,pt z),(3,pt (z+1)),(8,.agg #[pt pw]),(10,i6 x.Words)] rfl ⟨rfl,rfl,Ae⟩ ?_
  refine DT [] [] 32 #[.agg #[pt pw],i6 x.Words] (some 11) Ae ?_
  intro w5 hw5
  refine(Ip hw5 (i:=1) [0,2,3] rfl rfl rfl rfl x.Words (by first | omega | (simp only[List.length_append,CV,List.length_cons,List.length_nil];omega))).mono ?_
  rintro e w7 (⟨F6,ho8,rfl,hmw7,hSw7⟩ | ⟨ho8,rfl,hmw7,hSw7⟩)
  ·have hnw7:w3.heap.size≤w7.heap.size:=hmw7
   refine .inl ⟨_,_,rfl,hSw7, ?_⟩
   refine Bv 3 3 [] [[],[(a1 2),o0,(a1 3)]] [Qb z,Qb (z+1)] [(12,.agg #[pt pw]),(14,i6 x.Dj)] rfl ⟨rfl,rfl,Ae⟩ ?_
   refine DT [] [] 32 #[.agg #[pt pw],i6 x.Dj] (some 15) Ae ?_
   intro w9 hw9
   refine(Ip hw9 (i:=1) [0,2,3] rfl rfl rfl rfl x.Dj (by first | omega | (simp only[List.length_append,CV,List.length_cons,List.length_nil];omega))).mono ?_
   rintro e w11 (⟨F10,ho12,rfl,hmw11,hSw11⟩ | ⟨ho12,rfl,hmw11,hSw11⟩)
   ·have hnw11:w7.heap.size≤w11.heap.size:=hmw11
    refine .inl ⟨_,_,rfl,hSw11, ?_⟩
    refine CZ [] [] ?_
    refine LX (by kernel_rfl) ?_
    -- the function's end
    refine KR [] [] (.tuple #[]) Ae ?_
    intro w13 hw13
    have hD:=JX hw13 rfl (show w.heap.size≤w11.heap.size by omega) rfl (j:=1) rfl (by decide) hw
    rw[show(((bs++leB x.Kind 4)++leB x.Words 4)++leB x.Dj 4)=bs++Fj x from by unfold Fj;simp only[List.append_assoc]]at hD
    exact .inl ⟨(by unfold TQ;rw[ho4,ho8,ho12] <;> rfl),rfl,hD⟩
   have hnw11:w7.heap.size≤w11.heap.size:=hmw11
   refine .inr ⟨_,_,rfl,hSw11, ?_⟩
   refine BM ?_
   intro w14 hw14
   refine .inr ⟨(by unfold TQ;rw[ho12] <;> simp),rfl,Au hw14⟩
  have hnw7:w3.heap.size≤w7.heap.size:=hmw7
  refine .inr ⟨_,_,rfl,hSw7, ?_⟩
  refine BM ?_
  intro w15 hw15
  refine .inr ⟨(by unfold TQ;rw[ho8] <;> simp),rfl,Au hw15⟩
 have hnw3:z+2≤w3.heap.size:=hmw3
 refine .inr ⟨_,_,rfl,hSw3, ?_⟩
 refine BM ?_
 intro w16 hw16
 refine .inr ⟨(by unfold TQ;rw[ho4] <;> simp),rfl,Au hw16⟩
theorem channel_satP{A:AW}{w:World}{i pw:Nat}{F:Nat→Prop}{bs:List Int}{kept:List Ch}(h:Sat A w)(is:List Nat)(hi:A.σ[i]? = some (DW pw F bs))(hnd:nodupB is=true)(hp:picks is A.σ=some kept)(hni:is.contains i=false)(x:AQ)(hl:bs.length+12≤2147483647):Calls Tryz.prog 38 #[.agg #[.pointer (some ⟨pw,0,none⟩)],.agg (AQ.arr x)] w fun e w'=>(∃ F',TQ x=true∧e = .returned (.tuple #[])∧A.n≤w'.heap.size∧Sat { A with n:=w'.heap.size,σ:=A.σ.set i (DW pw F' (bs++Fj x)) } w')∨(TQ x=false∧e = .panicked Lm∧A.n≤w'.heap.size∧Sat { A with n:=w'.heap.size,σ:=kept } w') :=
 (Sm w pw F bs (h.at hi) x hl).mono (fun e w' hP=>Kz h hi is hnd hp hni hP)
theorem U5(t:ByteArray):(KC t).length=4+t.size:=by unfold KC;rw[List.length_append,CV,TW]
section
variable (z pw:Nat)(l:Sl A7)
abbrev Qp:=bk z #[pt pw] 77
abbrev MW:=(20,Aa l.xs.length)
abbrev Pg:Dv:=(19,.slice l.a l.xs.length l.cap)
end
theorem putW_calls(w:World)(pw:Nat)(F:Nat→Prop)(bs:List Int)(hw:Hg w pw F bs)(l:Sl A7)(hd:GU A7.cells 3 A7.ok (Dt w F) w l)(hl:bs.length+3073≤2147483647):Calls Tryz.prog 62 #[.agg #[.pointer (some ⟨pw,0,none⟩)],.slice l.a l.xs.length l.cap,.func (.func 63) #[] #[]] w fun e w'=>JO w pw F bs (Fp okW l.xs) (Bj MG l.xs) e w':=by
 obtain⟨z,hz⟩:∃ z,z=w.heap.size:=⟨_,rfl⟩
 refine BA (args:=[.agg #[pt pw],.slice l.a l.xs.length l.cap,.func (.func 63) #[] #[]]) 30 ⟨w,z,[(old F w),(DW pw F bs)]⟩ Tryz.func62 rfl (by kernel_rfl) (by kernel_rfl) (hz ▸ Jl hw) ?_
 have hdl:=hd.1.len
 refine Cc [0,1,2] [(0,.agg #[pt pw]),(1,.slice l.a l.xs.length l.cap),(2,.func (.func 63) #[] #[])] ?_
 refine q_c 6 0 [] [[o0]] [] [(1,.slice l.a l.xs.length l.cap),(2,.func (.func 63) #[] #[]),(3,pt z)] ⟨w,z+1,[(old F w),(DW pw F bs),(Qp z pw)]⟩ rfl Ae ?_
 by_cases h1:(255:Int)<(l.xs.length:Int)
 ·refine A8 5 2 [1] [[o0,o0,oT],[o0,o0]] [BT ((l.xs.length:Int) > 255)] [(1,.slice l.a l.xs.length l.cap),(2,.func (.func 63) #[] #[]),(3,pt z),(12,.iface 73 (.agg #[]))] rfl ⟨bt,Ae⟩ ?_
  refine I7 (.iface 73 (.agg #[])) ?_
  refine BM ?_
  intro w2 hw2
  refine .inr ⟨(SI (by omega)),rfl,Au hw2⟩
 refine A8 8 5 [0] [[o0,o0,oF],[o0,(a1 2),o0,o0,(ov (.int .u8 (l.xs.length:Int)))]] [BF ((l.xs.length:Int) > 255),Qb z,Value.int .u8 (IntKind.u8.wrap ((l.xs.length:Int)))=Value.int .u8 ((l.xs.length:Int))] [(1,.slice l.a l.xs.length l.cap),(2,.func (.func 63) #[] #[]),(3,pt z),(14,pt pw),(17,.int .u8 (l.xs.length:Int))] rfl ⟨bf,rfl,congrArg (Value.int .u8) (U1 rfl (by omega) (by omega)),Ae⟩ ?_
 refine l_call [] [] 61 #[pt pw,.int .u8 (l.xs.length:Int)] (some 18) Ae ?_
 intro w3 hw3
 refine(RY hw3 (i:=1) rfl (l.xs.length:Int) (by omega) (by first | omega | (simp only[List.length_append,CV,List.length_cons,List.length_nil];omega))).mono ?_
 rintro e w5 ⟨F4,rfl,hmw5,hSw5⟩;have hnw5:z+1≤w5.heap.size:=hmw5
 refine⟨_,_,rfl,hSw5, ?_⟩
 refine Bv 7 0 [] [[],[o0,o0,o0]] [] [(2,.func (.func 63) #[] #[]),(3,pt z),(Pg l),(MW l),(21,i6 0)] rfl Ae ?_
 refine DI (fun m a w'=>∃ (n7:Nat) (i:Nat) (FL:Nat→Prop),m=l.xs.length - i∧w5.heap.size≤n7∧(i≤l.xs.length)∧(∀ q,q<i→okW (gd l.xs q)=true)∧St 30 [(2,.func (.func 63) #[] #[]),(3,pt z),(Pg l),(MW l),(21,Aa i)] [] ⟨w,n7,[(old F w),(DW pw FL ((bs++[(l.xs.length:Int)])++(l.xs.take i).flatMap MG)),(Qp z pw)]⟩ a w') (l.xs.length - 0) ?_ ?_
 ·intro a w' hs;exact⟨w5.heap.size,0,F4,rfl,Nat.le_refl _,Nat.zero_le _,fun q hq=>absurd hq (Nat.not_lt_zero q),by(try dsimp only[Qp,MW,Pg]at hs ⊢);rw[List.take_zero,List.flatMap_nil,List.append_nil];exact hs⟩
 rintro m a w' ⟨n7,i,FL,rfl,hn6,hki,hok,hs⟩
 refine(?_:G Tryz.prog 30 [(2,.func (.func 63) #[] #[]),(3,pt z),(Pg l),(MW l),(21,Aa i)] [] ⟨w,n7,[(old F w),(DW pw FL ((bs++[(l.xs.length:Int)])++(l.xs.take i).flatMap MG)),(Qp z pw)]⟩ _ _ _) a w' hs
 clear hs a w'
 have hfl:=NR (enc:=MG) (K:=12) (xs:=l.xs) i (by omega) (fun q hq=>by rw[Zbi];exact Nat.le_refl _)
 refine Dl ?_
 by_cases h8:(i:Int)<(l.xs.length:Int)
 ·refine A8 10 0 [1] [[oT]] [BT ((i:Int)<(l.xs.length:Int))] [(2,.func (.func 63) #[] #[]),(3,pt z),(Pg l),(MW l),(21,Aa i),(22,.bool true)] rfl ⟨bt,Ae⟩ ?_
  obtain⟨b9,o10,ha11,hF13,hc12⟩:=(hd).1.all (show 0<l.xs.length by omega)
  replace ha11:l.a=some ⟨b9,o10,none⟩:=ha11
  refine J4 [(2,.func (.func 63) #[] #[]),(3,pt z),(19,.slice (some ⟨b9,o10,none⟩) l.xs.length l.cap),(MW l),(21,Aa i),(22,.bool true)] (by(try dsimp only[Qp,MW,Pg]);simp only[ha11]) ?_
  have hc14:=hc12 i (show i<l.xs.length by omega)
  have he15:=(hd).2 i (show i<l.xs.length by omega)
  obtain⟨y16,hy16⟩:∃ y_,y_=gd l.xs i:=⟨_,rfl⟩
  rw[←hy16]at he15 hc14
  refine q_c 4 3 [] [[(oi i),(oa [.via 0 (i6 y16.Partition),.via 0 (i6 y16.Bq),.via 0 (i6 y16.AC)]),o0,(an 3 3)],[o0,(a1 2),(an 3 3)]] [Ea i,i<l.xs.length,Ec,∀ w',Ch.holds (old F w) w'→w'.cell? ⟨b9,o10+i*3,none⟩=some (i6 y16.Partition),∀ w',Ch.holds (old F w) w'→w'.cell? ⟨b9,o10+i*3+1,none⟩=some (i6 y16.Bq),∀ w',Ch.holds (old F w) w'→w'.cell? ⟨b9,o10+i*3+2,none⟩=some (i6 y16.AC),Qb n7,Qb n7,Qb n7,Qb z,Qb n7,Qb n7,Qb n7] [(2,.func (.func 63) #[] #[]),(3,pt z),(19,.slice (some ⟨b9,o10,none⟩) l.xs.length l.cap),(MW l),(21,Aa i),(25,.func (.func 63) #[] #[]),(26,.agg #[pt pw]),(27,.agg (A7.arr y16))] ⟨w,n7+1,[(old F w),(DW pw FL ((bs++[(l.xs.length:Int)])++(l.xs.take i).flatMap MG)),(Qp z pw),(bk n7 (A7.arr y16) 52)]⟩ rfl ⟨rfl,(by omega),rfl,EP hF13 (hc14 0 _ rfl),EP hF13 (hc14 1 _ rfl),EP hF13 (hc14 2 _ rfl),rfl,rfl,rfl,rfl,rfl,rfl,rfl,Ae⟩ ?_
  refine DT [] [] 63 #[.agg #[pt pw],.agg (A7.arr y16)] (some 28) Ae ?_
  intro w17 hw17
  refine(window_satP hw17 (i:=1) [0,2,3] rfl rfl rfl rfl y16 (by first | omega | (simp only[List.length_append,CV,List.length_cons,List.length_nil];omega))).mono ?_
  rintro e w19 (⟨F18,ho20,rfl,hmw19,hSw19⟩ | ⟨ho20,rfl,hmw19,hSw19⟩)
  ·have hnw19:n7+1≤w19.heap.size:=hmw19
   refine .inl ⟨_,_,rfl,hSw19, ?_⟩
   refine Bv 5 0 [] [[],[(ov (i6 ((i+1:Nat):Int))),o0]] [Wr ((i:Int)+1) (((i+1:Nat):Int))] [(2,.func (.func 63) #[] #[]),(3,pt z),(19,.slice (some ⟨b9,o10,none⟩) l.xs.length l.cap),(MW l),(21,i6 ((i+1:Nat):Int))] rfl ⟨Dk,Ae⟩ ?_
   refine C9 [0,1,2] [(old F w),(DW pw F18 (((bs++[(l.xs.length:Int)])++(l.xs.take i).flatMap MG)++MG y16)),(Qp z pw)] rfl rfl ?_
   refine Gw [2,3,19,20,21] [(2,.func (.func 63) #[] #[]),(3,pt z),(Pg l),(MW l),(21,i6 ((i+1:Nat):Int))] (by(try dsimp only[Qp,MW,Pg]);simp only[ha11];rfl) ?_
   refine CS (fun a w' hs=>⟨l.xs.length - (i+1),by omega,w19.heap.size,(i+1),F18,rfl,by omega,by omega,Oi hok (by rw[←hy16];exact ho20),by(try dsimp only[Qp,MW,Pg]at hs ⊢);rw[LK (by omega),←hy16,←List.append_assoc];exact hs⟩)
  have hnw19:n7+1≤w19.heap.size:=hmw19
  refine .inr ⟨_,_,rfl,hSw19, ?_⟩
  refine BM ?_
  intro w21 hw21
  refine .inr ⟨(SL (i:=i) (by omega) (by rw[←hy16];exact ho20)),rfl,Au hw21⟩
 refine A8 9 0 [0] [[oF]] [BF ((i:Int)<(l.xs.length:Int))] [(2,.func (.func 63) #[] #[]),(3,pt z),(Pg l),(MW l),(21,Aa i),(22,.bool false)] rfl ⟨bf,Ae⟩ ?_
 -- the function's end
 refine KR [] [] (.tuple #[]) Ae ?_
 intro w22 hw22
 have hD:=JX hw22 rfl (show w.heap.size≤n7 by omega) rfl (j:=1) rfl (by decide) hw
 rw[show i=l.xs.length from by omega,List.take_length,List.append_assoc]at hD
 exact .inl ⟨(Ti (by omega) (fun q hq=>hok q (by omega))),rfl,hD⟩
theorem putW_satP{A:AW}{w:World}{i pw:Nat}{F:Nat→Prop}{bs:List Int}{kept:List Ch}(h:Sat A w)(is:List Nat)(hi:A.σ[i]? = some (DW pw F bs))(hnd:nodupB is=true)(hp:picks is A.σ=some kept)(hni:is.contains i=false)(l:Sl A7)(hd:GU A7.cells 3 A7.ok (Dt w F) w l)(hl:bs.length+3073≤2147483647):Calls Tryz.prog 62 #[.agg #[.pointer (some ⟨pw,0,none⟩)],.slice l.a l.xs.length l.cap,.func (.func 63) #[] #[]] w fun e w'=>(∃ F',Fp okW l.xs=true∧e = .returned (.tuple #[])∧A.n≤w'.heap.size∧Sat { A with n:=w'.heap.size,σ:=A.σ.set i (DW pw F' (bs++Bj MG l.xs)) } w')∨(Fp okW l.xs=false∧e = .panicked Lm∧A.n≤w'.heap.size∧Sat { A with n:=w'.heap.size,σ:=kept } w') :=
 (putW_calls w pw F bs (h.at hi) l hd hl).mono (fun e w' hP=>Kz h hi is hnd hp hni hP)
section
variable (z pw:Nat)(l:Sl AX)
abbrev Qs:=bk z #[pt pw] 77
abbrev MP:=(20,Aa l.xs.length)
abbrev OT:Dv:=(19,.slice l.a l.xs.length l.cap)
end
theorem putR_calls(w:World)(pw:Nat)(F:Nat→Prop)(bs:List Int)(hw:Hg w pw F bs)(l:Sl AX)(hd:GU AX.cells 4 AX.ok (Dt w F) w l)(hl:bs.length+4097≤2147483647):Calls Tryz.prog 65 #[.agg #[.pointer (some ⟨pw,0,none⟩)],.slice l.a l.xs.length l.cap,.func (.func 66) #[] #[]] w fun e w'=>JO w pw F bs (Fp okR l.xs) (Bj encR l.xs) e w':=by
 obtain⟨z,hz⟩:∃ z,z=w.heap.size:=⟨_,rfl⟩
 refine BA (args:=[.agg #[pt pw],.slice l.a l.xs.length l.cap,.func (.func 66) #[] #[]]) 30 ⟨w,z,[(old F w),(DW pw F bs)]⟩ Tryz.func65 rfl (by kernel_rfl) (by kernel_rfl) (hz ▸ Jl hw) ?_
 have hdl:=hd.1.len
 refine Cc [0,1,2] [(0,.agg #[pt pw]),(1,.slice l.a l.xs.length l.cap),(2,.func (.func 66) #[] #[])] ?_
 refine q_c 6 0 [] [[o0]] [] [(1,.slice l.a l.xs.length l.cap),(2,.func (.func 66) #[] #[]),(3,pt z)] ⟨w,z+1,[(old F w),(DW pw F bs),(Qs z pw)]⟩ rfl Ae ?_
 by_cases h1:(255:Int)<(l.xs.length:Int)
 ·refine A8 5 2 [1] [[o0,o0,oT],[o0,o0]] [BT ((l.xs.length:Int) > 255)] [(1,.slice l.a l.xs.length l.cap),(2,.func (.func 66) #[] #[]),(3,pt z),(12,.iface 73 (.agg #[]))] rfl ⟨bt,Ae⟩ ?_
  refine I7 (.iface 73 (.agg #[])) ?_
  refine BM ?_
  intro w2 hw2
  refine .inr ⟨(SI (by omega)),rfl,Au hw2⟩
 refine A8 8 5 [0] [[o0,o0,oF],[o0,(a1 2),o0,o0,(ov (.int .u8 (l.xs.length:Int)))]] [BF ((l.xs.length:Int) > 255),Qb z,Value.int .u8 (IntKind.u8.wrap ((l.xs.length:Int)))=Value.int .u8 ((l.xs.length:Int))] [(1,.slice l.a l.xs.length l.cap),(2,.func (.func 66) #[] #[]),(3,pt z),(14,pt pw),(17,.int .u8 (l.xs.length:Int))] rfl ⟨bf,rfl,congrArg (Value.int .u8) (U1 rfl (by omega) (by omega)),Ae⟩ ?_
 refine l_call [] [] 61 #[pt pw,.int .u8 (l.xs.length:Int)] (some 18) Ae ?_
 intro w3 hw3
 refine(RY hw3 (i:=1) rfl (l.xs.length:Int) (by omega) (by first | omega | (simp only[List.length_append,CV,List.length_cons,List.length_nil];omega))).mono ?_
 rintro e w5 ⟨F4,rfl,hmw5,hSw5⟩;have hnw5:z+1≤w5.heap.size:=hmw5
 refine⟨_,_,rfl,hSw5, ?_⟩
 refine Bv 7 0 [] [[],[o0,o0,o0]] [] [(2,.func (.func 66) #[] #[]),(3,pt z),(OT l),(MP l),(21,i6 0)] rfl Ae ?_
 refine DI (fun m a w'=>∃ (n7:Nat) (i:Nat) (FL:Nat→Prop),m=l.xs.length - i∧w5.heap.size≤n7∧(i≤l.xs.length)∧(∀ q,q<i→okR (gd l.xs q)=true)∧St 30 [(2,.func (.func 66) #[] #[]),(3,pt z),(OT l),(MP l),(21,Aa i)] [] ⟨w,n7,[(old F w),(DW pw FL ((bs++[(l.xs.length:Int)])++(l.xs.take i).flatMap encR)),(Qs z pw)]⟩ a w') (l.xs.length - 0) ?_ ?_
 ·intro a w' hs;exact⟨w5.heap.size,0,F4,rfl,Nat.le_refl _,Nat.zero_le _,fun q hq=>absurd hq (Nat.not_lt_zero q),by(try dsimp only[Qs,MP,OT]at hs ⊢);rw[List.take_zero,List.flatMap_nil,List.append_nil];exact hs⟩
 rintro m a w' ⟨n7,i,FL,rfl,hn6,hki,hok,hs⟩
 refine(?_:G Tryz.prog 30 [(2,.func (.func 66) #[] #[]),(3,pt z),(OT l),(MP l),(21,Aa i)] [] ⟨w,n7,[(old F w),(DW pw FL ((bs++[(l.xs.length:Int)])++(l.xs.take i).flatMap encR)),(Qs z pw)]⟩ _ _ _) a w' hs
 clear hs a w'
 have hfl:=NR (enc:=encR) (K:=16) (xs:=l.xs) i (by omega) (fun q hq=>by rw[TR];exact Nat.le_refl _)
 refine Dl ?_
 by_cases h8:(i:Int)<(l.xs.length:Int)
 ·refine A8 10 0 [1] [[oT]] [BT ((i:Int)<(l.xs.length:Int))] [(2,.func (.func 66) #[] #[]),(3,pt z),(OT l),(MP l),(21,Aa i),(22,.bool true)] rfl ⟨bt,Ae⟩ ?_
  obtain⟨b9,o10,ha11,hF13,hc12⟩:=(hd).1.all (show 0<l.xs.length by omega)
  replace ha11:l.a=some ⟨b9,o10,none⟩:=ha11
  refine J4 [(2,.func (.func 66) #[] #[]),(3,pt z),(19,.slice (some ⟨b9,o10,none⟩) l.xs.length l.cap),(MP l),(21,Aa i),(22,.bool true)] (by(try dsimp only[Qs,MP,OT]);simp only[ha11]) ?_
  have hc14:=hc12 i (show i<l.xs.length by omega)
  have he15:=(hd).2 i (show i<l.xs.length by omega)
  obtain⟨y16,hy16⟩:∃ y_,y_=gd l.xs i:=⟨_,rfl⟩
  rw[←hy16]at he15 hc14
  refine q_c 4 3 [] [[(oi i),(oa [.via 0 (i6 y16.CO),.via 0 (i6 y16.BO),.via 0 (i6 y16.Frame),.via 0 (i6 y16.EM)]),o0,(an 4 3)],[o0,(a1 2),(an 4 3)]] [Ea i,i<l.xs.length,Ec,∀ w',Ch.holds (old F w) w'→w'.cell? ⟨b9,o10+i*4,none⟩=some (i6 y16.CO),∀ w',Ch.holds (old F w) w'→w'.cell? ⟨b9,o10+i*4+1,none⟩=some (i6 y16.BO),∀ w',Ch.holds (old F w) w'→w'.cell? ⟨b9,o10+i*4+2,none⟩=some (i6 y16.Frame),∀ w',Ch.holds (old F w) w'→w'.cell? ⟨b9,o10+i*4+3,none⟩=some (i6 y16.EM),Qb n7,Qb n7,Qb n7,Qb n7,Qb z,Qb n7,Qb n7,Qb n7,Qb n7] [(2,.func (.func 66) #[] #[]),(3,pt z),(19,.slice (some ⟨b9,o10,none⟩) l.xs.length l.cap),(MP l),(21,Aa i),(25,.func (.func 66) #[] #[]),(26,.agg #[pt pw]),(27,.agg (AX.arr y16))] ⟨w,n7+1,[(old F w),(DW pw FL ((bs++[(l.xs.length:Int)])++(l.xs.take i).flatMap encR)),(Qs z pw),(bk n7 (AX.arr y16) 64)]⟩ rfl ⟨rfl,(by omega),rfl,EP hF13 (hc14 0 _ rfl),EP hF13 (hc14 1 _ rfl),EP hF13 (hc14 2 _ rfl),EP hF13 (hc14 3 _ rfl),rfl,rfl,rfl,rfl,rfl,rfl,rfl,rfl,rfl,Ae⟩ ?_
  refine DT [] [] 66 #[.agg #[pt pw],.agg (AX.arr y16)] (some 28) Ae ?_
  intro w17 hw17
  refine(region_satP hw17 (i:=1) [0,2,3] rfl rfl rfl rfl y16 (by first | omega | (simp only[List.length_append,CV,List.length_cons,List.length_nil];omega))).mono ?_
  rintro e w19 (⟨F18,ho20,rfl,hmw19,hSw19⟩ | ⟨ho20,rfl,hmw19,hSw19⟩)
  ·have hnw19:n7+1≤w19.heap.size:=hmw19
   refine .inl ⟨_,_,rfl,hSw19, ?_⟩
   refine Bv 5 0 [] [[],[(ov (i6 ((i+1:Nat):Int))),o0]] [Wr ((i:Int)+1) (((i+1:Nat):Int))] [(2,.func (.func 66) #[] #[]),(3,pt z),(19,.slice (some ⟨b9,o10,none⟩) l.xs.length l.cap),(MP l),(21,i6 ((i+1:Nat):Int))] rfl ⟨Dk,Ae⟩ ?_
   refine C9 [0,1,2] [(old F w),(DW pw F18 (((bs++[(l.xs.length:Int)])++(l.xs.take i).flatMap encR)++encR y16)),(Qs z pw)] rfl rfl ?_
   refine Gw [2,3,19,20,21] [(2,.func (.func 66) #[] #[]),(3,pt z),(OT l),(MP l),(21,i6 ((i+1:Nat):Int))] (by(try dsimp only[Qs,MP,OT]);simp only[ha11];rfl) ?_
   refine CS (fun a w' hs=>⟨l.xs.length - (i+1),by omega,w19.heap.size,(i+1),F18,rfl,by omega,by omega,Oi hok (by rw[←hy16];exact ho20),by(try dsimp only[Qs,MP,OT]at hs ⊢);rw[LK (by omega),←hy16,←List.append_assoc];exact hs⟩)
  have hnw19:n7+1≤w19.heap.size:=hmw19
  refine .inr ⟨_,_,rfl,hSw19, ?_⟩
  refine BM ?_
  intro w21 hw21
  refine .inr ⟨(SL (i:=i) (by omega) (by rw[←hy16];exact ho20)),rfl,Au hw21⟩
 refine A8 9 0 [0] [[oF]] [BF ((i:Int)<(l.xs.length:Int))] [(2,.func (.func 66) #[] #[]),(3,pt z),(OT l),(MP l),(21,Aa i),(22,.bool false)] rfl ⟨bf,Ae⟩ ?_
 -- the function's end
 refine KR [] [] (.tuple #[]) Ae ?_
 intro w22 hw22
 have hD:=JX hw22 rfl (show w.heap.size≤n7 by omega) rfl (j:=1) rfl (by decide) hw
 rw[show i=l.xs.length from by omega,List.take_length,List.append_assoc]at hD
 exact .inl ⟨(Ti (by omega) (fun q hq=>hok q (by omega))),rfl,hD⟩
theorem putR_satP{A:AW}{w:World}{i pw:Nat}{F:Nat→Prop}{bs:List Int}{kept:List Ch}(h:Sat A w)(is:List Nat)(hi:A.σ[i]? = some (DW pw F bs))(hnd:nodupB is=true)(hp:picks is A.σ=some kept)(hni:is.contains i=false)(l:Sl AX)(hd:GU AX.cells 4 AX.ok (Dt w F) w l)(hl:bs.length+4097≤2147483647):Calls Tryz.prog 65 #[.agg #[.pointer (some ⟨pw,0,none⟩)],.slice l.a l.xs.length l.cap,.func (.func 66) #[] #[]] w fun e w'=>(∃ F',Fp okR l.xs=true∧e = .returned (.tuple #[])∧A.n≤w'.heap.size∧Sat { A with n:=w'.heap.size,σ:=A.σ.set i (DW pw F' (bs++Bj encR l.xs)) } w')∨(Fp okR l.xs=false∧e = .panicked Lm∧A.n≤w'.heap.size∧Sat { A with n:=w'.heap.size,σ:=kept } w') :=
 (putR_calls w pw F bs (h.at hi) l hd hl).mono (fun e w' hP=>Kz h hi is hnd hp hni hP)
section
variable (z pw:Nat)(l:Sl BR)
abbrev QH:=bk z #[pt pw] 77
abbrev MO:=(20,Aa l.xs.length)
abbrev Pz:Dv:=(19,.slice l.a l.xs.length l.cap)
end
theorem putP_calls(w:World)(pw:Nat)(F:Nat→Prop)(bs:List Int)(hw:Hg w pw F bs)(l:Sl BR)(hd:GU BR.cells 2 BR.ok (Dt w F) w l)(hl:bs.length+1281≤2147483647):Calls Tryz.prog 67 #[.agg #[.pointer (some ⟨pw,0,none⟩)],.slice l.a l.xs.length l.cap,.func (.func 68) #[] #[]] w fun e w'=>JO w pw F bs (Fp UA l.xs) (Bj KF l.xs) e w':=by
 obtain⟨z,hz⟩:∃ z,z=w.heap.size:=⟨_,rfl⟩
 refine BA (args:=[.agg #[pt pw],.slice l.a l.xs.length l.cap,.func (.func 68) #[] #[]]) 30 ⟨w,z,[(old F w),(DW pw F bs)]⟩ Tryz.func67 rfl (by kernel_rfl) (by kernel_rfl) (hz ▸ Jl hw) ?_
 have hdl:=hd.1.len
 refine Cc [0,1,2] [(0,.agg #[pt pw]),(1,.slice l.a l.xs.length l.cap),(2,.func (.func 68) #[] #[])] ?_
 refine q_c 6 0 [] [[o0]] [] [(1,.slice l.a l.xs.length l.cap),(2,.func (.func 68) #[] #[]),(3,pt z)] ⟨w,z+1,[(old F w),(DW pw F bs),(QH z pw)]⟩ rfl Ae ?_
 by_cases h1:(255:Int)<(l.xs.length:Int)
 ·refine A8 5 2 [1] [[o0,o0,oT],[o0,o0]] [BT ((l.xs.length:Int) > 255)] [(1,.slice l.a l.xs.length l.cap),(2,.func (.func 68) #[] #[]),(3,pt z),(12,.iface 73 (.agg #[]))] rfl ⟨bt,Ae⟩ ?_
  refine I7 (.iface 73 (.agg #[])) ?_
  refine BM ?_
  intro w2 hw2
  refine .inr ⟨(SI (by omega)),rfl,Au hw2⟩
 refine A8 8 5 [0] [[o0,o0,oF],[o0,(a1 2),o0,o0,(ov (.int .u8 (l.xs.length:Int)))]] [BF ((l.xs.length:Int) > 255),Qb z,Value.int .u8 (IntKind.u8.wrap ((l.xs.length:Int)))=Value.int .u8 ((l.xs.length:Int))] [(1,.slice l.a l.xs.length l.cap),(2,.func (.func 68) #[] #[]),(3,pt z),(14,pt pw),(17,.int .u8 (l.xs.length:Int))] rfl ⟨bf,rfl,congrArg (Value.int .u8) (U1 rfl (by omega) (by omega)),Ae⟩ ?_
 refine l_call [] [] 61 #[pt pw,.int .u8 (l.xs.length:Int)] (some 18) Ae ?_
 intro w3 hw3
 refine(RY hw3 (i:=1) rfl (l.xs.length:Int) (by omega) (by first | omega | (simp only[List.length_append,CV,List.length_cons,List.length_nil];omega))).mono ?_
 rintro e w5 ⟨F4,rfl,hmw5,hSw5⟩;have hnw5:z+1≤w5.heap.size:=hmw5
 refine⟨_,_,rfl,hSw5, ?_⟩
 refine Bv 7 0 [] [[],[o0,o0,o0]] [] [(2,.func (.func 68) #[] #[]),(3,pt z),(Pz l),(MO l),(21,i6 0)] rfl Ae ?_
 refine DI (fun m a w'=>∃ (n7:Nat) (i:Nat) (FL:Nat→Prop),m=l.xs.length - i∧w5.heap.size≤n7∧(i≤l.xs.length)∧(∀ q,q<i→UA (gd l.xs q)=true)∧St 30 [(2,.func (.func 68) #[] #[]),(3,pt z),(Pz l),(MO l),(21,Aa i)] [] ⟨w,n7,[(old F w),(DW pw FL ((bs++[(l.xs.length:Int)])++(l.xs.take i).flatMap KF)),(QH z pw)]⟩ a w') (l.xs.length - 0) ?_ ?_
 ·intro a w' hs;exact⟨w5.heap.size,0,F4,rfl,Nat.le_refl _,Nat.zero_le _,fun q hq=>absurd hq (Nat.not_lt_zero q),by(try dsimp only[QH,MO,Pz]at hs ⊢);rw[List.take_zero,List.flatMap_nil,List.append_nil];exact hs⟩
 rintro m a w' ⟨n7,i,FL,rfl,hn6,hki,hok,hs⟩
 refine(?_:G Tryz.prog 30 [(2,.func (.func 68) #[] #[]),(3,pt z),(Pz l),(MO l),(21,Aa i)] [] ⟨w,n7,[(old F w),(DW pw FL ((bs++[(l.xs.length:Int)])++(l.xs.take i).flatMap KF)),(QH z pw)]⟩ _ _ _) a w' hs
 clear hs a w'
 have hfl:=NR (enc:=KF) (K:=5) (xs:=l.xs) i (by omega) (fun q hq=>by rw[Vw];exact Nat.le_refl _)
 refine Dl ?_
 by_cases h8:(i:Int)<(l.xs.length:Int)
 ·refine A8 10 0 [1] [[oT]] [BT ((i:Int)<(l.xs.length:Int))] [(2,.func (.func 68) #[] #[]),(3,pt z),(Pz l),(MO l),(21,Aa i),(22,.bool true)] rfl ⟨bt,Ae⟩ ?_
  obtain⟨b9,o10,ha11,hF13,hc12⟩:=(hd).1.all (show 0<l.xs.length by omega)
  replace ha11:l.a=some ⟨b9,o10,none⟩:=ha11
  refine J4 [(2,.func (.func 68) #[] #[]),(3,pt z),(19,.slice (some ⟨b9,o10,none⟩) l.xs.length l.cap),(MO l),(21,Aa i),(22,.bool true)] (by(try dsimp only[QH,MO,Pz]);simp only[ha11]) ?_
  have hc14:=hc12 i (show i<l.xs.length by omega)
  have he15:=(hd).2 i (show i<l.xs.length by omega)
  obtain⟨y16,hy16⟩:∃ y_,y_=gd l.xs i:=⟨_,rfl⟩
  rw[←hy16]at he15 hc14
  refine q_c 4 3 [] [[(oi i),(oa [.via 0 (i6 y16.Channel),.via 0 (.bool y16.Source)]),o0,(an 2 3)],[o0,(a1 2),(an 2 3)]] [Ea i,i<l.xs.length,Ec,∀ w',Ch.holds (old F w) w'→w'.cell? ⟨b9,o10+i*2,none⟩=some (i6 y16.Channel),∀ w',Ch.holds (old F w) w'→w'.cell? ⟨b9,o10+i*2+1,none⟩=some (.bool y16.Source),Qb n7,Qb n7,Qb z,Qb n7,Qb n7] [(2,.func (.func 68) #[] #[]),(3,pt z),(19,.slice (some ⟨b9,o10,none⟩) l.xs.length l.cap),(MO l),(21,Aa i),(25,.func (.func 68) #[] #[]),(26,.agg #[pt pw]),(27,.agg (BR.arr y16))] ⟨w,n7+1,[(old F w),(DW pw FL ((bs++[(l.xs.length:Int)])++(l.xs.take i).flatMap KF)),(QH z pw),(bk n7 (BR.arr y16) 67)]⟩ rfl ⟨rfl,(by omega),rfl,EP hF13 (hc14 0 _ rfl),EP hF13 (hc14 1 _ rfl),rfl,rfl,rfl,rfl,rfl,Ae⟩ ?_
  refine DT [] [] 68 #[.agg #[pt pw],.agg (BR.arr y16)] (some 28) Ae ?_
  intro w17 hw17
  refine(port_satP hw17 (i:=1) [0,2,3] rfl rfl rfl rfl y16 (by first | omega | (simp only[List.length_append,CV,List.length_cons,List.length_nil];omega))).mono ?_
  rintro e w19 (⟨F18,ho20,rfl,hmw19,hSw19⟩ | ⟨ho20,rfl,hmw19,hSw19⟩)
  ·have hnw19:n7+1≤w19.heap.size:=hmw19
   refine .inl ⟨_,_,rfl,hSw19, ?_⟩
   refine Bv 5 0 [] [[],[(ov (i6 ((i+1:Nat):Int))),o0]] [Wr ((i:Int)+1) (((i+1:Nat):Int))] [(2,.func (.func 68) #[] #[]),(3,pt z),(19,.slice (some ⟨b9,o10,none⟩) l.xs.length l.cap),(MO l),(21,i6 ((i+1:Nat):Int))] rfl ⟨Dk,Ae⟩ ?_
   refine C9 [0,1,2] [(old F w),(DW pw F18 (((bs++[(l.xs.length:Int)])++(l.xs.take i).flatMap KF)++KF y16)),(QH z pw)] rfl rfl ?_
   refine Gw [2,3,19,20,21] [(2,.func (.func 68) #[] #[]),(3,pt z),(Pz l),(MO l),(21,i6 ((i+1:Nat):Int))] (by(try dsimp only[QH,MO,Pz]);simp only[ha11];rfl) ?_
   refine CS (fun a w' hs=>⟨l.xs.length - (i+1),by omega,w19.heap.size,(i+1),F18,rfl,by omega,by omega,Oi hok (by rw[←hy16];exact ho20),by(try dsimp only[QH,MO,Pz]at hs ⊢);rw[LK (by omega),←hy16,←List.append_assoc];exact hs⟩)
  have hnw19:n7+1≤w19.heap.size:=hmw19
  refine .inr ⟨_,_,rfl,hSw19, ?_⟩
  refine BM ?_
  intro w21 hw21
  refine .inr ⟨(SL (i:=i) (by omega) (by rw[←hy16];exact ho20)),rfl,Au hw21⟩
 refine A8 9 0 [0] [[oF]] [BF ((i:Int)<(l.xs.length:Int))] [(2,.func (.func 68) #[] #[]),(3,pt z),(Pz l),(MO l),(21,Aa i),(22,.bool false)] rfl ⟨bf,Ae⟩ ?_
 -- the function's end
 refine KR [] [] (.tuple #[]) Ae ?_
 intro w22 hw22
 have hD:=JX hw22 rfl (show w.heap.size≤n7 by omega) rfl (j:=1) rfl (by decide) hw
 rw[show i=l.xs.length from by omega,List.take_length,List.append_assoc]at hD
 exact .inl ⟨(Ti (by omega) (fun q hq=>hok q (by omega))),rfl,hD⟩
theorem putP_satP{A:AW}{w:World}{i pw:Nat}{F:Nat→Prop}{bs:List Int}{kept:List Ch}(h:Sat A w)(is:List Nat)(hi:A.σ[i]? = some (DW pw F bs))(hnd:nodupB is=true)(hp:picks is A.σ=some kept)(hni:is.contains i=false)(l:Sl BR)(hd:GU BR.cells 2 BR.ok (Dt w F) w l)(hl:bs.length+1281≤2147483647):Calls Tryz.prog 67 #[.agg #[.pointer (some ⟨pw,0,none⟩)],.slice l.a l.xs.length l.cap,.func (.func 68) #[] #[]] w fun e w'=>(∃ F',Fp UA l.xs=true∧e = .returned (.tuple #[])∧A.n≤w'.heap.size∧Sat { A with n:=w'.heap.size,σ:=A.σ.set i (DW pw F' (bs++Bj KF l.xs)) } w')∨(Fp UA l.xs=false∧e = .panicked Lm∧A.n≤w'.heap.size∧Sat { A with n:=w'.heap.size,σ:=kept } w') :=
 (putP_calls w pw F bs (h.at hi) l hd hl).mono (fun e w' hP=>Kz h hi is hnd hp hni hP)
section
variable (z pw:Nat)(l:Sl AQ)
abbrev Qv:=bk z #[pt pw] 77
abbrev ML:=(20,Aa l.xs.length)
abbrev P6:Dv:=(19,.slice l.a l.xs.length l.cap)
end
theorem putC_calls(w:World)(pw:Nat)(F:Nat→Prop)(bs:List Int)(hw:Hg w pw F bs)(l:Sl AQ)(hd:GU AQ.cells 3 AQ.ok (Dt w F) w l)(hl:bs.length+3073≤2147483647):Calls Tryz.prog 37 #[.agg #[.pointer (some ⟨pw,0,none⟩)],.slice l.a l.xs.length l.cap,.func (.func 38) #[] #[]] w fun e w'=>JO w pw F bs (Fp TQ l.xs) (Bj Fj l.xs) e w':=by
 obtain⟨z,hz⟩:∃ z,z=w.heap.size:=⟨_,rfl⟩
 refine BA (args:=[.agg #[pt pw],.slice l.a l.xs.length l.cap,.func (.func 38) #[] #[]]) 30 ⟨w,z,[(old F w),(DW pw F bs)]⟩ Tryz.func37 rfl (by kernel_rfl) (by kernel_rfl) (hz ▸ Jl hw) ?_
 have hdl:=hd.1.len
 refine Cc [0,1,2] [(0,.agg #[pt pw]),(1,.slice l.a l.xs.length l.cap),(2,.func (.func 38) #[] #[])] ?_
 refine q_c 6 0 [] [[o0]] [] [(1,.slice l.a l.xs.length l.cap),(2,.func (.func 38) #[] #[]),(3,pt z)] ⟨w,z+1,[(old F w),(DW pw F bs),(Qv z pw)]⟩ rfl Ae ?_
 by_cases h1:(255:Int)<(l.xs.length:Int)
 ·refine A8 5 2 [1] [[o0,o0,oT],[o0,o0]] [BT ((l.xs.length:Int) > 255)] [(1,.slice l.a l.xs.length l.cap),(2,.func (.func 38) #[] #[]),(3,pt z),(12,.iface 73 (.agg #[]))] rfl ⟨bt,Ae⟩ ?_
  refine I7 (.iface 73 (.agg #[])) ?_
  refine BM ?_
  intro w2 hw2
  refine .inr ⟨(SI (by omega)),rfl,Au hw2⟩
 refine A8 8 5 [0] [[o0,o0,oF],[o0,(a1 2),o0,o0,(ov (.int .u8 (l.xs.length:Int)))]] [BF ((l.xs.length:Int) > 255),Qb z,Value.int .u8 (IntKind.u8.wrap ((l.xs.length:Int)))=Value.int .u8 ((l.xs.length:Int))] [(1,.slice l.a l.xs.length l.cap),(2,.func (.func 38) #[] #[]),(3,pt z),(14,pt pw),(17,.int .u8 (l.xs.length:Int))] rfl ⟨bf,rfl,congrArg (Value.int .u8) (U1 rfl (by omega) (by omega)),Ae⟩ ?_
 refine l_call [] [] 61 #[pt pw,.int .u8 (l.xs.length:Int)] (some 18) Ae ?_
 intro w3 hw3
 refine(RY hw3 (i:=1) rfl (l.xs.length:Int) (by omega) (by first | omega | (simp only[List.length_append,CV,List.length_cons,List.length_nil];omega))).mono ?_
 rintro e w5 ⟨F4,rfl,hmw5,hSw5⟩;have hnw5:z+1≤w5.heap.size:=hmw5
 refine⟨_,_,rfl,hSw5, ?_⟩
 refine Bv 7 0 [] [[],[o0,o0,o0]] [] [(2,.func (.func 38) #[] #[]),(3,pt z),(P6 l),(ML l),(21,i6 0)] rfl Ae ?_
 refine DI (fun m a w'=>∃ (n7:Nat) (i:Nat) (FL:Nat→Prop),m=l.xs.length - i∧w5.heap.size≤n7∧(i≤l.xs.length)∧(∀ q,q<i→TQ (gd l.xs q)=true)∧St 30 [(2,.func (.func 38) #[] #[]),(3,pt z),(P6 l),(ML l),(21,Aa i)] [] ⟨w,n7,[(old F w),(DW pw FL ((bs++[(l.xs.length:Int)])++(l.xs.take i).flatMap Fj)),(Qv z pw)]⟩ a w') (l.xs.length - 0) ?_ ?_
 ·intro a w' hs;exact⟨w5.heap.size,0,F4,rfl,Nat.le_refl _,Nat.zero_le _,fun q hq=>absurd hq (Nat.not_lt_zero q),by(try dsimp only[Qv,ML,P6]at hs ⊢);rw[List.take_zero,List.flatMap_nil,List.append_nil];exact hs⟩
 rintro m a w' ⟨n7,i,FL,rfl,hn6,hki,hok,hs⟩
 refine(?_:G Tryz.prog 30 [(2,.func (.func 38) #[] #[]),(3,pt z),(P6 l),(ML l),(21,Aa i)] [] ⟨w,n7,[(old F w),(DW pw FL ((bs++[(l.xs.length:Int)])++(l.xs.take i).flatMap Fj)),(Qv z pw)]⟩ _ _ _) a w' hs
 clear hs a w'
 have hfl:=NR (enc:=Fj) (K:=12) (xs:=l.xs) i (by omega) (fun q hq=>by rw[VG];exact Nat.le_refl _)
 refine Dl ?_
 by_cases h8:(i:Int)<(l.xs.length:Int)
 ·refine A8 10 0 [1] [[oT]] [BT ((i:Int)<(l.xs.length:Int))] [(2,.func (.func 38) #[] #[]),(3,pt z),(P6 l),(ML l),(21,Aa i),(22,.bool true)] rfl ⟨bt,Ae⟩ ?_
  obtain⟨b9,o10,ha11,hF13,hc12⟩:=(hd).1.all (show 0<l.xs.length by omega)
  replace ha11:l.a=some ⟨b9,o10,none⟩:=ha11
  refine J4 [(2,.func (.func 38) #[] #[]),(3,pt z),(19,.slice (some ⟨b9,o10,none⟩) l.xs.length l.cap),(ML l),(21,Aa i),(22,.bool true)] (by(try dsimp only[Qv,ML,P6]);simp only[ha11]) ?_
  have hc14:=hc12 i (show i<l.xs.length by omega)
  have he15:=(hd).2 i (show i<l.xs.length by omega)
  obtain⟨y16,hy16⟩:∃ y_,y_=gd l.xs i:=⟨_,rfl⟩
  rw[←hy16]at he15 hc14
  refine q_c 4 3 [] [[(oi i),(oa [.via 0 (i6 y16.Kind),.via 0 (i6 y16.Words),.via 0 (i6 y16.Dj)]),o0,(an 3 3)],[o0,(a1 2),(an 3 3)]] [Ea i,i<l.xs.length,Ec,∀ w',Ch.holds (old F w) w'→w'.cell? ⟨b9,o10+i*3,none⟩=some (i6 y16.Kind),∀ w',Ch.holds (old F w) w'→w'.cell? ⟨b9,o10+i*3+1,none⟩=some (i6 y16.Words),∀ w',Ch.holds (old F w) w'→w'.cell? ⟨b9,o10+i*3+2,none⟩=some (i6 y16.Dj),Qb n7,Qb n7,Qb n7,Qb z,Qb n7,Qb n7,Qb n7] [(2,.func (.func 38) #[] #[]),(3,pt z),(19,.slice (some ⟨b9,o10,none⟩) l.xs.length l.cap),(ML l),(21,Aa i),(25,.func (.func 38) #[] #[]),(26,.agg #[pt pw]),(27,.agg (AQ.arr y16))] ⟨w,n7+1,[(old F w),(DW pw FL ((bs++[(l.xs.length:Int)])++(l.xs.take i).flatMap Fj)),(Qv z pw),(bk n7 (AQ.arr y16) 49)]⟩ rfl ⟨rfl,(by omega),rfl,EP hF13 (hc14 0 _ rfl),EP hF13 (hc14 1 _ rfl),EP hF13 (hc14 2 _ rfl),rfl,rfl,rfl,rfl,rfl,rfl,rfl,Ae⟩ ?_
  refine DT [] [] 38 #[.agg #[pt pw],.agg (AQ.arr y16)] (some 28) Ae ?_
  intro w17 hw17
  refine(channel_satP hw17 (i:=1) [0,2,3] rfl rfl rfl rfl y16 (by first | omega | (simp only[List.length_append,CV,List.length_cons,List.length_nil];omega))).mono ?_
  rintro e w19 (⟨F18,ho20,rfl,hmw19,hSw19⟩ | ⟨ho20,rfl,hmw19,hSw19⟩)
  ·have hnw19:n7+1≤w19.heap.size:=hmw19
   refine .inl ⟨_,_,rfl,hSw19, ?_⟩
   refine Bv 5 0 [] [[],[(ov (i6 ((i+1:Nat):Int))),o0]] [Wr ((i:Int)+1) (((i+1:Nat):Int))] [(2,.func (.func 38) #[] #[]),(3,pt z),(19,.slice (some ⟨b9,o10,none⟩) l.xs.length l.cap),(ML l),(21,i6 ((i+1:Nat):Int))] rfl ⟨Dk,Ae⟩ ?_
   refine C9 [0,1,2] [(old F w),(DW pw F18 (((bs++[(l.xs.length:Int)])++(l.xs.take i).flatMap Fj)++Fj y16)),(Qv z pw)] rfl rfl ?_
   refine Gw [2,3,19,20,21] [(2,.func (.func 38) #[] #[]),(3,pt z),(P6 l),(ML l),(21,i6 ((i+1:Nat):Int))] (by(try dsimp only[Qv,ML,P6]);simp only[ha11];rfl) ?_
   refine CS (fun a w' hs=>⟨l.xs.length - (i+1),by omega,w19.heap.size,(i+1),F18,rfl,by omega,by omega,Oi hok (by rw[←hy16];exact ho20),by(try dsimp only[Qv,ML,P6]at hs ⊢);rw[LK (by omega),←hy16,←List.append_assoc];exact hs⟩)
  have hnw19:n7+1≤w19.heap.size:=hmw19
  refine .inr ⟨_,_,rfl,hSw19, ?_⟩
  refine BM ?_
  intro w21 hw21
  refine .inr ⟨(SL (i:=i) (by omega) (by rw[←hy16];exact ho20)),rfl,Au hw21⟩
 refine A8 9 0 [0] [[oF]] [BF ((i:Int)<(l.xs.length:Int))] [(2,.func (.func 38) #[] #[]),(3,pt z),(P6 l),(ML l),(21,Aa i),(22,.bool false)] rfl ⟨bf,Ae⟩ ?_
 -- the function's end
 refine KR [] [] (.tuple #[]) Ae ?_
 intro w22 hw22
 have hD:=JX hw22 rfl (show w.heap.size≤n7 by omega) rfl (j:=1) rfl (by decide) hw
 rw[show i=l.xs.length from by omega,List.take_length,List.append_assoc]at hD
 exact .inl ⟨(Ti (by omega) (fun q hq=>hok q (by omega))),rfl,hD⟩
theorem putC_satP{A:AW}{w:World}{i pw:Nat}{F:Nat→Prop}{bs:List Int}{kept:List Ch}(h:Sat A w)(is:List Nat)(hi:A.σ[i]? = some (DW pw F bs))(hnd:nodupB is=true)(hp:picks is A.σ=some kept)(hni:is.contains i=false)(l:Sl AQ)(hd:GU AQ.cells 3 AQ.ok (Dt w F) w l)(hl:bs.length+3073≤2147483647):Calls Tryz.prog 37 #[.agg #[.pointer (some ⟨pw,0,none⟩)],.slice l.a l.xs.length l.cap,.func (.func 38) #[] #[]] w fun e w'=>(∃ F',Fp TQ l.xs=true∧e = .returned (.tuple #[])∧A.n≤w'.heap.size∧Sat { A with n:=w'.heap.size,σ:=A.σ.set i (DW pw F' (bs++Bj Fj l.xs)) } w')∨(Fp TQ l.xs=false∧e = .panicked Lm∧A.n≤w'.heap.size∧Sat { A with n:=w'.heap.size,σ:=kept } w') :=
 (putC_calls w pw F bs (h.at hi) l hd hl).mono (fun e w' hP=>Kz h hi is hnd hp hni hP)
theorem Vx(w:World)(pw:Nat)(F:Nat→Prop)(bs:List Int)(hw:Hg w pw F bs)(l:Sl A7)(hd:GU A7.cells 3 A7.ok (Dt w F) w l)(hl:bs.length+3073≤2147483647):Calls Tryz.prog 34 #[.agg #[.pointer (some ⟨pw,0,none⟩)],.slice l.a l.xs.length l.cap] w fun e w'=>JO w pw F bs (Sj l) (ER l) e w':=by
 obtain⟨z,hz⟩:∃ z,z=w.heap.size:=⟨_,rfl⟩
 refine BA (args:=[.agg #[pt pw],.slice l.a l.xs.length l.cap]) 7 ⟨w,z,[(old F w),(DW pw F bs)]⟩ Tryz.func34 rfl (by kernel_rfl) (by kernel_rfl) (hz ▸ Jl hw) ?_
 refine Cc [0,1] [(0,.agg #[pt pw]),(1,.slice l.a l.xs.length l.cap)] ?_
 refine q_c 5 2 [] [[o0],[(a1 2),o0]] [Qb z] [(4,.agg #[pt pw]),(5,.slice l.a l.xs.length l.cap)] ⟨w,z+1,[(old F w),(DW pw F bs),(bk z #[pt pw] 77)]⟩ rfl ⟨rfl,Ae⟩ ?_
 refine DT [] [] 62 #[.agg #[pt pw],.slice l.a l.xs.length l.cap,.func (.func 63) #[] #[]] (some 6) Ae ?_
 intro w1 hw1
 have hew1:=Yt hw1 (F:=F) rfl;have hFw1:=Y0 hw1 (F:=F) rfl (show w.heap.size≤z+1 by omega) (j:=1) rfl rfl (by decide)
 refine(putW_satP hw1 (i:=1) [0,2] rfl rfl rfl rfl l (Ir hew1 hFw1 hd (fun _ h=>A7.ok.ext hew1 hFw1 h)) (by first | omega | (simp only[List.length_append,CV,List.length_cons,List.length_nil];omega))).mono ?_
 rintro e w3 (⟨F2,ho4,rfl,hmw3,hSw3⟩ | ⟨ho4,rfl,hmw3,hSw3⟩)
 ·have hnw3:z+1≤w3.heap.size:=hmw3
  refine .inl ⟨_,_,rfl,hSw3, ?_⟩
  refine CZ [] [] ?_
  refine LX (by kernel_rfl) ?_
  -- the function's end
  refine KR [] [] (.tuple #[]) Ae ?_
  intro w5 hw5
  have hD:=JX hw5 rfl (show w.heap.size≤w3.heap.size by omega) rfl (j:=1) rfl (by decide) hw
  exact .inl ⟨ho4,rfl,hD⟩
 have hnw3:z+1≤w3.heap.size:=hmw3
 refine .inr ⟨_,_,rfl,hSw3, ?_⟩
 refine BM ?_
 intro w6 hw6
 refine .inr ⟨ho4,rfl,Au hw6⟩
theorem core_satP{A:AW}{w:World}{i pw:Nat}{F:Nat→Prop}{bs:List Int}{kept:List Ch}(h:Sat A w)(is:List Nat)(hi:A.σ[i]? = some (DW pw F bs))(hnd:nodupB is=true)(hp:picks is A.σ=some kept)(hni:is.contains i=false)(l:Sl A7)(hd:GU A7.cells 3 A7.ok (Dt w F) w l)(hl:bs.length+3073≤2147483647):Calls Tryz.prog 34 #[.agg #[.pointer (some ⟨pw,0,none⟩)],.slice l.a l.xs.length l.cap] w fun e w'=>(∃ F',Sj l=true∧e = .returned (.tuple #[])∧A.n≤w'.heap.size∧Sat { A with n:=w'.heap.size,σ:=A.σ.set i (DW pw F' (bs++ER l)) } w')∨(Sj l=false∧e = .panicked Lm∧A.n≤w'.heap.size∧Sat { A with n:=w'.heap.size,σ:=kept } w') :=
 (Vx w pw F bs (h.at hi) l hd hl).mono (fun e w' hP=>Kz h hi is hnd hp hni hP)
section
variable (l:Sl (Sl A7))
abbrev MN:=(20,Aa l.xs.length)
abbrev Pm:Dv:=(19,.slice l.a l.xs.length l.cap)
end
theorem putWs_calls(w:World)(pw:Nat)(F:Nat→Prop)(bs:List Int)(hw:Hg w pw F bs)(l:Sl (Sl A7))(hd:GU (fun x:Sl A7=>[Sl.val x]) 1 (fun F W x=>GU A7.cells 3 A7.ok F W x) (Dt w F) w l)(hl:bs.length+793601≤2147483647):Calls Tryz.prog 33 #[.agg #[.pointer (some ⟨pw,0,none⟩)],.slice l.a l.xs.length l.cap,.func (.func 34) #[] #[]] w fun e w'=>JO w pw F bs (Fp Sj l.xs) (Bj ER l.xs) e w':=by
 obtain⟨z,hz⟩:∃ z,z=w.heap.size:=⟨_,rfl⟩
 refine BA (args:=[.agg #[pt pw],.slice l.a l.xs.length l.cap,.func (.func 34) #[] #[]]) 30 ⟨w,z,[(old F w),(DW pw F bs)]⟩ Tryz.func33 rfl (by kernel_rfl) (by kernel_rfl) (hz ▸ Jl hw) ?_
 have hdl:=hd.1.len
 refine Cc [0,1,2] [(0,.agg #[pt pw]),(1,.slice l.a l.xs.length l.cap),(2,.func (.func 34) #[] #[])] ?_
 refine q_c 6 0 [] [[o0]] [] [(1,.slice l.a l.xs.length l.cap),(2,.func (.func 34) #[] #[]),(3,pt z)] ⟨w,z+1,[(old F w),(DW pw F bs),(bk z #[pt pw] 77)]⟩ rfl Ae ?_
 by_cases h1:(255:Int)<(l.xs.length:Int)
 ·refine A8 5 2 [1] [[o0,o0,oT],[o0,o0]] [BT ((l.xs.length:Int) > 255)] [(1,.slice l.a l.xs.length l.cap),(2,.func (.func 34) #[] #[]),(3,pt z),(12,.iface 73 (.agg #[]))] rfl ⟨bt,Ae⟩ ?_
  refine I7 (.iface 73 (.agg #[])) ?_
  refine BM ?_
  intro w2 hw2
  refine .inr ⟨(SI (by omega)),rfl,Au hw2⟩
 refine A8 8 5 [0] [[o0,o0,oF],[o0,(a1 2),o0,o0,(ov (.int .u8 (l.xs.length:Int)))]] [BF ((l.xs.length:Int) > 255),Qb z,Value.int .u8 (IntKind.u8.wrap ((l.xs.length:Int)))=Value.int .u8 ((l.xs.length:Int))] [(1,.slice l.a l.xs.length l.cap),(2,.func (.func 34) #[] #[]),(3,pt z),(14,pt pw),(17,.int .u8 (l.xs.length:Int))] rfl ⟨bf,rfl,congrArg (Value.int .u8) (U1 rfl (by omega) (by omega)),Ae⟩ ?_
 refine l_call [] [] 61 #[pt pw,.int .u8 (l.xs.length:Int)] (some 18) Ae ?_
 intro w3 hw3
 refine(RY hw3 (i:=1) rfl (l.xs.length:Int) (by omega) (by first | omega | (simp only[List.length_append,CV,List.length_cons,List.length_nil];omega))).mono ?_
 rintro e w5 ⟨F4,rfl,hmw5,hSw5⟩;have hnw5:z+1≤w5.heap.size:=hmw5
 refine⟨_,_,rfl,hSw5, ?_⟩
 refine Bv 7 0 [] [[],[o0,o0,o0]] [] [(2,.func (.func 34) #[] #[]),(3,pt z),(Pm l),(MN l),(21,i6 0)] rfl Ae ?_
 refine DI (fun m a w'=>∃ (n7:Nat) (i:Nat) (FL:Nat→Prop),m=l.xs.length - i∧w5.heap.size≤n7∧(i≤l.xs.length)∧(∀ q,q<i→Sj (gd l.xs q)=true)∧St 30 [(2,.func (.func 34) #[] #[]),(3,pt z),(Pm l),(MN l),(21,Aa i)] [] ⟨w,n7,[(old F w),(DW pw FL ((bs++[(l.xs.length:Int)])++(l.xs.take i).flatMap ER)),(bk z #[pt pw] 77)]⟩ a w') (l.xs.length - 0) ?_ ?_
 ·intro a w' hs;exact⟨w5.heap.size,0,F4,rfl,Nat.le_refl _,Nat.zero_le _,fun q hq=>absurd hq (Nat.not_lt_zero q),by(try dsimp only[MN,Pm]at hs ⊢);rw[List.take_zero,List.flatMap_nil,List.append_nil];exact hs⟩
 rintro m a w' ⟨n7,i,FL,rfl,hn6,hki,hok,hs⟩
 refine(?_:G Tryz.prog 30 [(2,.func (.func 34) #[] #[]),(3,pt z),(Pm l),(MN l),(21,Aa i)] [] ⟨w,n7,[(old F w),(DW pw FL ((bs++[(l.xs.length:Int)])++(l.xs.take i).flatMap ER)),(bk z #[pt pw] 77)]⟩ _ _ _) a w' hs
 clear hs a w'
 have hfl:=NR (enc:=ER) (K:=3100) (xs:=l.xs) i (by omega) (fun q hq=>Nat.le_trans (encWs_le (hok q hq)) (by decide))
 refine Dl ?_
 by_cases h8:(i:Int)<(l.xs.length:Int)
 ·refine A8 10 0 [1] [[oT]] [BT ((i:Int)<(l.xs.length:Int))] [(2,.func (.func 34) #[] #[]),(3,pt z),(Pm l),(MN l),(21,Aa i),(22,.bool true)] rfl ⟨bt,Ae⟩ ?_
  obtain⟨b9,o10,ha11,hF13,hc12⟩:=(hd).1.all (show 0<l.xs.length by omega)
  replace ha11:l.a=some ⟨b9,o10,none⟩:=ha11
  refine J4 [(2,.func (.func 34) #[] #[]),(3,pt z),(19,.slice (some ⟨b9,o10,none⟩) l.xs.length l.cap),(MN l),(21,Aa i),(22,.bool true)] (by(try dsimp only[MN,Pm]);simp only[ha11]) ?_
  have hc14:=hc12 i (show i<l.xs.length by omega)
  have he15:=(hd).2 i (show i<l.xs.length by omega)
  obtain⟨y16,hy16⟩:∃ y_,y_=gd l.xs i:=⟨_,rfl⟩
  rw[←hy16]at he15 hc14
  refine A8 4 3 [] [[(oi i),(oa [.via 0 (.slice y16.a y16.xs.length y16.cap)]),o0],[o0,(a1 2),o0]] [Ea i,i<l.xs.length,Ec,∀ w',Ch.holds (old F w) w'→w'.cell? ⟨b9,o10+i,none⟩=some (.slice y16.a y16.xs.length y16.cap),Qb z] [(2,.func (.func 34) #[] #[]),(3,pt z),(19,.slice (some ⟨b9,o10,none⟩) l.xs.length l.cap),(MN l),(21,Aa i),(25,.func (.func 34) #[] #[]),(26,.agg #[pt pw]),(27,.slice y16.a y16.xs.length y16.cap)] rfl ⟨rfl,(by omega),rfl,EP hF13 (hc14 0 _ rfl),rfl,Ae⟩ ?_
  refine DT [] [] 34 #[.agg #[pt pw],.slice y16.a y16.xs.length y16.cap] (some 28) Ae ?_
  intro w17 hw17
  have hew17:=Yt hw17 (F:=F) rfl;have hFw17:=Y0 hw17 (F:=F) rfl (show w.heap.size≤n7 by omega) (j:=1) rfl rfl (by decide)
  refine(core_satP hw17 (i:=1) [0,2] rfl rfl rfl rfl y16 (Ir hew17 hFw17 he15 (fun _ h=>A7.ok.ext hew17 hFw17 h)) (by first | omega | (simp only[List.length_append,CV,List.length_cons,List.length_nil];omega))).mono ?_
  rintro e w19 (⟨F18,ho20,rfl,hmw19,hSw19⟩ | ⟨ho20,rfl,hmw19,hSw19⟩)
  ·have hnw19:n7≤w19.heap.size:=hmw19
   refine .inl ⟨_,_,rfl,hSw19, ?_⟩
   refine Bv 5 0 [] [[],[(ov (i6 ((i+1:Nat):Int))),o0]] [Wr ((i:Int)+1) (((i+1:Nat):Int))] [(2,.func (.func 34) #[] #[]),(3,pt z),(19,.slice (some ⟨b9,o10,none⟩) l.xs.length l.cap),(MN l),(21,i6 ((i+1:Nat):Int))] rfl ⟨Dk,Ae⟩ ?_
   refine Gw [2,3,19,20,21] [(2,.func (.func 34) #[] #[]),(3,pt z),(Pm l),(MN l),(21,i6 ((i+1:Nat):Int))] (by(try dsimp only[MN,Pm]);simp only[ha11];rfl) ?_
   refine CS (fun a w' hs=>⟨l.xs.length - (i+1),by omega,w19.heap.size,(i+1),F18,rfl,by omega,by omega,Oi hok (by rw[←hy16];exact ho20),by(try dsimp only[MN,Pm]at hs ⊢);rw[LK (by omega),←hy16,←List.append_assoc];exact hs⟩)
  have hnw19:n7≤w19.heap.size:=hmw19
  refine .inr ⟨_,_,rfl,hSw19, ?_⟩
  refine BM ?_
  intro w21 hw21
  refine .inr ⟨(SL (i:=i) (by omega) (by rw[←hy16];exact ho20)),rfl,Au hw21⟩
 refine A8 9 0 [0] [[oF]] [BF ((i:Int)<(l.xs.length:Int))] [(2,.func (.func 34) #[] #[]),(3,pt z),(Pm l),(MN l),(21,Aa i),(22,.bool false)] rfl ⟨bf,Ae⟩ ?_
 -- the function's end
 refine KR [] [] (.tuple #[]) Ae ?_
 intro w22 hw22
 have hD:=JX hw22 rfl (show w.heap.size≤n7 by omega) rfl (j:=1) rfl (by decide) hw
 rw[show i=l.xs.length from by omega,List.take_length,List.append_assoc]at hD
 exact .inl ⟨(Ti (by omega) (fun q hq=>hok q (by omega))),rfl,hD⟩
theorem putWs_satP{A:AW}{w:World}{i pw:Nat}{F:Nat→Prop}{bs:List Int}{kept:List Ch}(h:Sat A w)(is:List Nat)(hi:A.σ[i]? = some (DW pw F bs))(hnd:nodupB is=true)(hp:picks is A.σ=some kept)(hni:is.contains i=false)(l:Sl (Sl A7))(hd:GU (fun x:Sl A7=>[Sl.val x]) 1 (fun F W x=>GU A7.cells 3 A7.ok F W x) (Dt w F) w l)(hl:bs.length+793601≤2147483647):Calls Tryz.prog 33 #[.agg #[.pointer (some ⟨pw,0,none⟩)],.slice l.a l.xs.length l.cap,.func (.func 34) #[] #[]] w fun e w'=>(∃ F',Fp Sj l.xs=true∧e = .returned (.tuple #[])∧A.n≤w'.heap.size∧Sat { A with n:=w'.heap.size,σ:=A.σ.set i (DW pw F' (bs++Bj ER l.xs)) } w')∨(Fp Sj l.xs=false∧e = .panicked Lm∧A.n≤w'.heap.size∧Sat { A with n:=w'.heap.size,σ:=kept } w') :=
 (putWs_calls w pw F bs (h.at hi) l hd hl).mono (fun e w' hP=>Kz h hi is hnd hp hni hP)
section
variable (x:Ap)(z:Nat)
abbrev Hy:Dv:=(20,.agg #[i6 x.Entry,i6 x.Dz,i6 x.AU,i6 x.Dx,i6 x.AZ])
abbrev GZ:=(3,pt (z+1))
end
theorem LM(w:World)(pw:Nat)(F:Nat→Prop)(bs:List Int)(hw:Hg w pw F bs)(x:Ap)(hx:Ap.ok (Dt w F) w x)(hl:bs.length+7000≤2147483647):Calls Tryz.prog 36 #[.agg #[.pointer (some ⟨pw,0,none⟩)],.agg (Ap.arr x)] w fun e w'=>JO w pw F bs (Lr x) (encPt x) e w':=by
 obtain⟨z,hz⟩:∃ z,z=w.heap.size:=⟨_,rfl⟩
 refine BA (args:=[.agg #[pt pw],.agg (Ap.arr x)]) 36 ⟨w,z,[(old F w),(DW pw F bs)]⟩ Tryz.func36 rfl (by kernel_rfl) (by kernel_rfl) (hz ▸ Jl hw) ?_
 refine Cc [0,1] [(0,.agg #[pt pw]),(1,.agg (Ap.arr x))] ?_
 refine q_c 6 3 [] [[o0,o0],[(a1 2),o0,(a1 3)]] [Qb z,Qb (z+1)] [(2,pt z),(GZ z),(6,.agg #[pt pw]),(8,.string x.Name)] ⟨w,z+2,[(old F w),(DW pw F bs),(bk z #[pt pw] 77),(bk (z+1) (Ap.arr x) 57)]⟩ rfl ⟨rfl,rfl,Ae⟩ ?_
 refine DT [] [] 64 #[.agg #[pt pw],.string x.Name] (some 9) Ae ?_
 intro w1 hw1
 refine(name_satP hw1 (i:=1) [0,2,3] rfl rfl rfl rfl x.Name (by first | omega | (simp only[List.length_append,CV,List.length_cons,List.length_nil];omega))).mono ?_
 rintro e w3 (⟨F2,ho4,rfl,hmw3,hSw3⟩ | ⟨ho4,rfl,hmw3,hSw3⟩)
 ·have hnw3:z+2≤w3.heap.size:=hmw3
  have hnm:=of_decide_eq_true ho4;have hnl:=U5 x.Name
  refine .inl ⟨_,_,rfl,hSw3, ?_⟩
  refine Bv 8 0 [] [[],[o0,(a1 3),o0,(a1 3),o0,(a1 3),o0,(a1 3),o0,(a1 3),o0,o0]] [Qb (z+1),Qb (z+1),Qb (z+1),Qb (z+1),Qb (z+1)] [(2,pt z),(GZ z),(Hy x),(21,i6 0)] rfl ⟨rfl,rfl,rfl,rfl,rfl,Ae⟩ ?_
  refine DI (fun m a w'=>∃ (n6:Nat) (i:Nat) (FL:Nat→Prop),m=5 - i∧w3.heap.size≤n6∧(i≤5)∧(∀ q,q<i→Iw (gd (Nj x) q)=true)∧St 36 [(2,pt z),(GZ z),(Hy x),(21,Aa i)] [] ⟨w,n6,[(old F w),(DW pw FL ((bs++KC x.Name)++((Nj x).take i).flatMap (fun n=>leB n 4))),(bk z #[pt pw] 77),(bk (z+1) (Ap.arr x) 57)]⟩ a w') (5 - 0) ?_ ?_
  ·intro a w' hs;exact⟨w3.heap.size,0,F2,rfl,Nat.le_refl _,Nat.zero_le _,fun q hq=>absurd hq (Nat.not_lt_zero q),by(try dsimp only[Hy,GZ]at hs ⊢);rw[List.take_zero,List.flatMap_nil,List.append_nil];exact hs⟩
  rintro m a w' ⟨n6,i,FL,rfl,hn5,hki,hok5,hs⟩
  refine(?_:G Tryz.prog 36 [(2,pt z),(GZ z),(Hy x),(21,Aa i)] [] ⟨w,n6,[(old F w),(DW pw FL ((bs++KC x.Name)++((Nj x).take i).flatMap (fun n=>leB n 4))),(bk z #[pt pw] 77),(bk (z+1) (Ap.arr x) 57)]⟩ _ _ _) a w' hs
  clear hs a w'
  have hfl:=NR (enc:=fun n=>leB n 4) (K:=4) (xs:=Nj x) i (by show i≤5;omega) (fun q hq=>by rw[CV];exact Nat.le_refl _)
  refine Dl ?_
  by_cases h7:(i:Int)<5
  ·refine A8 14 2 [1] [[oT],[⟨.aidx i (i6 (gd (Nj x) i)),none⟩,o0],[(a1 2),o0]] [BT ((i:Int)<5),Ea i,i<5,(#[i6 x.Entry,i6 x.Dz,i6 x.AU,i6 x.Dx,i6 x.AZ]:Array Value)[GI 1 i]? = some (i6 (gd (Nj x) i)),Qb z] [(2,pt z),(GZ z),(Hy x),(21,Aa i),(24,.agg #[pt pw]),(25,i6 (gd (Nj x) i))] rfl ⟨bt,rfl,(by omega),(gd5 (by omega)),rfl,Ae⟩ ?_
   refine DT [] [] 32 #[.agg #[pt pw],i6 (gd (Nj x) i)] (some 26) Ae ?_
   intro w8 hw8
   refine(Ip hw8 (i:=1) [0,2,3] rfl rfl rfl rfl (gd (Nj x) i) (by first | omega | (simp only[List.length_append,CV,List.length_cons,List.length_nil];omega))).mono ?_
   rintro e w10 (⟨F9,ho11,rfl,hmw10,hSw10⟩ | ⟨ho11,rfl,hmw10,hSw10⟩)
   ·have hnw10:n6≤w10.heap.size:=hmw10
    refine .inl ⟨_,_,rfl,hSw10, ?_⟩
    refine Bv 5 0 [] [[],[(ov (i6 ((i+1:Nat):Int))),o0]] [Wr ((i:Int)+1) (((i+1:Nat):Int))] [(2,pt z),(GZ z),(Hy x),(21,i6 ((i+1:Nat):Int))] rfl ⟨Dk,Ae⟩ ?_
    refine CS (fun a w' hs=>⟨5 - (i+1),by omega,w10.heap.size,(i+1),F9,rfl,by omega,by omega,Oi hok5 ho11,by(try dsimp only[Hy,GZ]at hs ⊢);rw[LK (by show i<5;omega),←List.append_assoc];exact hs⟩)
   have hnw10:n6≤w10.heap.size:=hmw10
   refine .inr ⟨_,_,rfl,hSw10, ?_⟩
   refine BM ?_
   intro w12 hw12
   refine .inr ⟨(by unfold Lr;rw[Ov (xs:=Nj x) (i:=i) (by show i<5;omega) ho11];simp),rfl,Au hw12⟩
  refine A8 12 3 [0] [[oF],[(a1 2),o0,(a1 3)]] [BF ((i:Int)<5),Qb z,Qb (z+1)] [(2,pt z),(GZ z),(28,.agg #[pt pw]),(30,.slice x.Ah.a x.Ah.xs.length x.Ah.cap)] rfl ⟨bf,rfl,rfl,Ae⟩ ?_
  refine DT [] [] 65 #[.agg #[pt pw],.slice x.Ah.a x.Ah.xs.length x.Ah.cap,.func (.func 66) #[] #[]] (some 31) Ae ?_
  intro w13 hw13
  have hew13:=Yt hw13 (F:=F) rfl;have hFw13:=Y0 hw13 (F:=F) rfl (show w.heap.size≤n6 by omega) (j:=1) rfl rfl (by decide)
  refine(putR_satP hw13 (i:=1) [0,2,3] rfl rfl rfl rfl x.Ah (Ir hew13 hFw13 hx.Ah (fun _ h=>AX.ok.ext hew13 hFw13 h)) (by first | omega | (simp only[List.length_append,CV,List.length_cons,List.length_nil];omega))).mono ?_
  rintro e w15 (⟨F14,ho16,rfl,hmw15,hSw15⟩ | ⟨ho16,rfl,hmw15,hSw15⟩)
  ·have hnw15:n6≤w15.heap.size:=hmw15
   have hrn:=KW ho16;have hrl:=O6 (enc:=encR) (K:=16) (xs:=x.Ah.xs) (fun q _=>by rw[TR];exact Nat.le_refl _)
   refine .inl ⟨_,_,rfl,hSw15, ?_⟩
   refine Bv 3 3 [] [[],[(a1 2),o0,(a1 3)]] [Qb z,Qb (z+1)] [(32,.agg #[pt pw]),(34,.slice x.Aq.a x.Aq.xs.length x.Aq.cap)] rfl ⟨rfl,rfl,Ae⟩ ?_
   refine DT [] [] 67 #[.agg #[pt pw],.slice x.Aq.a x.Aq.xs.length x.Aq.cap,.func (.func 68) #[] #[]] (some 35) Ae ?_
   intro w17 hw17
   have hew17:=Yt hw17 (F:=F) rfl;have hFw17:=Y0 hw17 (F:=F) rfl (show w.heap.size≤w15.heap.size by omega) (j:=1) rfl rfl (by decide)
   refine(putP_satP hw17 (i:=1) [0,2,3] rfl rfl rfl rfl x.Aq (Ir hew17 hFw17 hx.Aq (fun _ h=>BR.ok.ext hew17 hFw17 h)) (by first | omega | (simp only[List.length_append,CV,List.length_cons,List.length_nil];omega))).mono ?_
   rintro e w19 (⟨F18,ho20,rfl,hmw19,hSw19⟩ | ⟨ho20,rfl,hmw19,hSw19⟩)
   ·have hnw19:w15.heap.size≤w19.heap.size:=hmw19
    refine .inl ⟨_,_,rfl,hSw19, ?_⟩
    refine CZ [] [] ?_
    refine LX (by kernel_rfl) ?_
    -- the function's end
    refine KR [] [] (.tuple #[]) Ae ?_
    intro w21 hw21
    have hD:=JX hw21 rfl (show w.heap.size≤w19.heap.size by omega) rfl (j:=1) rfl (by decide) hw
    have hT:(Nj x).take i=Nj x:=by rw[show i=5 from by omega];rfl
    rw[hT,show((((bs++KC x.Name)++(Nj x).flatMap (fun n=>leB n 4))++Bj encR x.Ah.xs)++Bj KF x.Aq.xs)=bs++encPt x from by unfold encPt;simp only[List.append_assoc]]at hD
    exact .inl ⟨(by unfold Lr;rw[ho4,PV (xs:=Nj x) (fun q hq=>hok5 q (by have:q<5:=hq;omega)),ho16,ho20];rfl),rfl,hD⟩
   have hnw19:w15.heap.size≤w19.heap.size:=hmw19
   refine .inr ⟨_,_,rfl,hSw19, ?_⟩
   refine BM ?_
   intro w22 hw22
   refine .inr ⟨(by unfold Lr;rw[ho20];simp),rfl,Au hw22⟩
  have hnw15:n6≤w15.heap.size:=hmw15
  refine .inr ⟨_,_,rfl,hSw15, ?_⟩
  refine BM ?_
  intro w23 hw23
  refine .inr ⟨(by unfold Lr;rw[ho16];simp),rfl,Au hw23⟩
 have hnw3:z+2≤w3.heap.size:=hmw3
 refine .inr ⟨_,_,rfl,hSw3, ?_⟩
 refine BM ?_
 intro w24 hw24
 refine .inr ⟨(by unfold Lr;rw[ho4];simp),rfl,Au hw24⟩
theorem Zt{A:AW}{w:World}{i pw:Nat}{F:Nat→Prop}{bs:List Int}{kept:List Ch}(h:Sat A w)(is:List Nat)(hi:A.σ[i]? = some (DW pw F bs))(hnd:nodupB is=true)(hp:picks is A.σ=some kept)(hni:is.contains i=false)(x:Ap)(hx:Ap.ok (Dt w F) w x)(hl:bs.length+7000≤2147483647):Calls Tryz.prog 36 #[.agg #[.pointer (some ⟨pw,0,none⟩)],.agg (Ap.arr x)] w fun e w'=>(∃ F',Lr x=true∧e = .returned (.tuple #[])∧A.n≤w'.heap.size∧Sat { A with n:=w'.heap.size,σ:=A.σ.set i (DW pw F' (bs++encPt x)) } w')∨(Lr x=false∧e = .panicked Lm∧A.n≤w'.heap.size∧Sat { A with n:=w'.heap.size,σ:=kept } w') :=
 (LM w pw F bs (h.at hi) x hx hl).mono (fun e w' hP=>Kz h hi is hnd hp hni hP)
section
variable (z pw:Nat)(l:Sl Ap)
abbrev Q8:=bk z #[pt pw] 77
abbrev MQ:=(20,Aa l.xs.length)
abbrev Po:Dv:=(19,.slice l.a l.xs.length l.cap)
end
theorem putPt_calls(w:World)(pw:Nat)(F:Nat→Prop)(bs:List Int)(hw:Hg w pw F bs)(l:Sl Ap)(hd:GU Ap.cells 8 Ap.ok (Dt w F) w l)(hl:bs.length+1792001≤2147483647):Calls Tryz.prog 35 #[.agg #[.pointer (some ⟨pw,0,none⟩)],.slice l.a l.xs.length l.cap,.func (.func 36) #[] #[]] w fun e w'=>JO w pw F bs (Fp Lr l.xs) (Bj encPt l.xs) e w':=by
 obtain⟨z,hz⟩:∃ z,z=w.heap.size:=⟨_,rfl⟩
 refine BA (args:=[.agg #[pt pw],.slice l.a l.xs.length l.cap,.func (.func 36) #[] #[]]) 30 ⟨w,z,[(old F w),(DW pw F bs)]⟩ Tryz.func35 rfl (by kernel_rfl) (by kernel_rfl) (hz ▸ Jl hw) ?_
 have hdl:=hd.1.len
 refine Cc [0,1,2] [(0,.agg #[pt pw]),(1,.slice l.a l.xs.length l.cap),(2,.func (.func 36) #[] #[])] ?_
 refine q_c 6 0 [] [[o0]] [] [(1,.slice l.a l.xs.length l.cap),(2,.func (.func 36) #[] #[]),(3,pt z)] ⟨w,z+1,[(old F w),(DW pw F bs),(Q8 z pw)]⟩ rfl Ae ?_
 by_cases h1:(255:Int)<(l.xs.length:Int)
 ·refine A8 5 2 [1] [[o0,o0,oT],[o0,o0]] [BT ((l.xs.length:Int) > 255)] [(1,.slice l.a l.xs.length l.cap),(2,.func (.func 36) #[] #[]),(3,pt z),(12,.iface 73 (.agg #[]))] rfl ⟨bt,Ae⟩ ?_
  refine I7 (.iface 73 (.agg #[])) ?_
  refine BM ?_
  intro w2 hw2
  refine .inr ⟨(SI (by omega)),rfl,Au hw2⟩
 refine A8 8 5 [0] [[o0,o0,oF],[o0,(a1 2),o0,o0,(ov (.int .u8 (l.xs.length:Int)))]] [BF ((l.xs.length:Int) > 255),Qb z,Value.int .u8 (IntKind.u8.wrap ((l.xs.length:Int)))=Value.int .u8 ((l.xs.length:Int))] [(1,.slice l.a l.xs.length l.cap),(2,.func (.func 36) #[] #[]),(3,pt z),(14,pt pw),(17,.int .u8 (l.xs.length:Int))] rfl ⟨bf,rfl,congrArg (Value.int .u8) (U1 rfl (by omega) (by omega)),Ae⟩ ?_
 refine l_call [] [] 61 #[pt pw,.int .u8 (l.xs.length:Int)] (some 18) Ae ?_
 intro w3 hw3
 refine(RY hw3 (i:=1) rfl (l.xs.length:Int) (by omega) (by first | omega | (simp only[List.length_append,CV,List.length_cons,List.length_nil];omega))).mono ?_
 rintro e w5 ⟨F4,rfl,hmw5,hSw5⟩;have hnw5:z+1≤w5.heap.size:=hmw5
 refine⟨_,_,rfl,hSw5, ?_⟩
 refine Bv 7 0 [] [[],[o0,o0,o0]] [] [(2,.func (.func 36) #[] #[]),(3,pt z),(Po l),(MQ l),(21,i6 0)] rfl Ae ?_
 refine DI (fun m a w'=>∃ (n7:Nat) (i:Nat) (FL:Nat→Prop),m=l.xs.length - i∧w5.heap.size≤n7∧(i≤l.xs.length)∧(∀ q,q<i→Lr (gd l.xs q)=true)∧St 30 [(2,.func (.func 36) #[] #[]),(3,pt z),(Po l),(MQ l),(21,Aa i)] [] ⟨w,n7,[(old F w),(DW pw FL ((bs++[(l.xs.length:Int)])++(l.xs.take i).flatMap encPt)),(Q8 z pw)]⟩ a w') (l.xs.length - 0) ?_ ?_
 ·intro a w' hs;exact⟨w5.heap.size,0,F4,rfl,Nat.le_refl _,Nat.zero_le _,fun q hq=>absurd hq (Nat.not_lt_zero q),by(try dsimp only[Q8,MQ,Po]at hs ⊢);rw[List.take_zero,List.flatMap_nil,List.append_nil];exact hs⟩
 rintro m a w' ⟨n7,i,FL,rfl,hn6,hki,hok,hs⟩
 refine(?_:G Tryz.prog 30 [(2,.func (.func 36) #[] #[]),(3,pt z),(Po l),(MQ l),(21,Aa i)] [] ⟨w,n7,[(old F w),(DW pw FL ((bs++[(l.xs.length:Int)])++(l.xs.take i).flatMap encPt)),(Q8 z pw)]⟩ _ _ _) a w' hs
 clear hs a w'
 have hfl:=NR (enc:=encPt) (K:=7000) (xs:=l.xs) i (by omega) (fun q hq=>Nat.le_trans (ZaQ (hok q hq)) (by decide))
 refine Dl ?_
 by_cases h8:(i:Int)<(l.xs.length:Int)
 ·refine A8 10 0 [1] [[oT]] [BT ((i:Int)<(l.xs.length:Int))] [(2,.func (.func 36) #[] #[]),(3,pt z),(Po l),(MQ l),(21,Aa i),(22,.bool true)] rfl ⟨bt,Ae⟩ ?_
  obtain⟨b9,o10,ha11,hF13,hc12⟩:=(hd).1.all (show 0<l.xs.length by omega)
  replace ha11:l.a=some ⟨b9,o10,none⟩:=ha11
  refine J4 [(2,.func (.func 36) #[] #[]),(3,pt z),(19,.slice (some ⟨b9,o10,none⟩) l.xs.length l.cap),(MQ l),(21,Aa i),(22,.bool true)] (by(try dsimp only[Q8,MQ,Po]);simp only[ha11]) ?_
  have hc14:=hc12 i (show i<l.xs.length by omega)
  have he15:=(hd).2 i (show i<l.xs.length by omega)
  obtain⟨y16,hy16⟩:∃ y_,y_=gd l.xs i:=⟨_,rfl⟩
  rw[←hy16]at he15 hc14
  refine q_c 4 3 [] [[(oi i),(oa [.via 0 (.string y16.Name),.via 0 (i6 y16.Entry),.via 0 (i6 y16.Dz),.via 0 (i6 y16.AU),.via 0 (i6 y16.Dx),.via 0 (i6 y16.AZ),.via 0 (.slice y16.Ah.a y16.Ah.xs.length y16.Ah.cap),.via 0 (.slice y16.Aq.a y16.Aq.xs.length y16.Aq.cap)]),o0,(an 8 3)],[o0,(a1 2),(an 8 3)]] [Ea i,i<l.xs.length,Ec,∀ w',Ch.holds (old F w) w'→w'.cell? ⟨b9,o10+i*8,none⟩=some (.string y16.Name),∀ w',Ch.holds (old F w) w'→w'.cell? ⟨b9,o10+i*8+1,none⟩=some (i6 y16.Entry),∀ w',Ch.holds (old F w) w'→w'.cell? ⟨b9,o10+i*8+2,none⟩=some (i6 y16.Dz),∀ w',Ch.holds (old F w) w'→w'.cell? ⟨b9,o10+i*8+3,none⟩=some (i6 y16.AU),∀ w',Ch.holds (old F w) w'→w'.cell? ⟨b9,o10+i*8+4,none⟩=some (i6 y16.Dx),∀ w',Ch.holds (old F w) w'→w'.cell? ⟨b9,o10+i*8+5,none⟩=some (i6 y16.AZ),∀ w',Ch.holds (old F w) w'→w'.cell? ⟨b9,o10+i*8+6,none⟩=some (.slice y16.Ah.a y16.Ah.xs.length y16.Ah.cap),∀ w',Ch.holds (old F w) w'→w'.cell? ⟨b9,o10+i*8+7,none⟩=some (.slice y16.Aq.a y16.Aq.xs.length y16.Aq.cap),Qb n7,Qb n7,Qb n7,Qb n7,Qb n7,Qb n7,Qb n7,Qb n7,Qb z,Qb n7,Qb n7,Qb n7,Qb n7,Qb n7,Qb n7,Qb n7,Qb n7] [(2,.func (.func 36) #[] #[]),(3,pt z),(19,.slice (some ⟨b9,o10,none⟩) l.xs.length l.cap),(MQ l),(21,Aa i),(25,.func (.func 36) #[] #[]),(26,.agg #[pt pw]),(27,.agg (Ap.arr y16))] ⟨w,n7+1,[(old F w),(DW pw FL ((bs++[(l.xs.length:Int)])++(l.xs.take i).flatMap encPt)),(Q8 z pw),(bk n7 (Ap.arr y16) 57)]⟩ rfl ⟨rfl,(by omega),rfl,EP hF13 (hc14 0 _ rfl),EP hF13 (hc14 1 _ rfl),EP hF13 (hc14 2 _ rfl),EP hF13 (hc14 3 _ rfl),EP hF13 (hc14 4 _ rfl),EP hF13 (hc14 5 _ rfl),EP hF13 (hc14 6 _ rfl),EP hF13 (hc14 7 _ rfl),rfl,rfl,rfl,rfl,rfl,rfl,rfl,rfl,rfl,rfl,rfl,rfl,rfl,rfl,rfl,rfl,rfl,Ae⟩ ?_
  refine DT [] [] 36 #[.agg #[pt pw],.agg (Ap.arr y16)] (some 28) Ae ?_
  intro w17 hw17
  have hew17:=Yt hw17 (F:=F) rfl;have hFw17:=Y0 hw17 (F:=F) rfl (show w.heap.size≤n7+1 by omega) (j:=1) rfl rfl (by decide)
  refine(Zt hw17 (i:=1) [0,2,3] rfl rfl rfl rfl y16 (Ap.ok.ext hew17 hFw17 he15) (by first | omega | (simp only[List.length_append,CV,List.length_cons,List.length_nil];omega))).mono ?_
  rintro e w19 (⟨F18,ho20,rfl,hmw19,hSw19⟩ | ⟨ho20,rfl,hmw19,hSw19⟩)
  ·have hnw19:n7+1≤w19.heap.size:=hmw19
   refine .inl ⟨_,_,rfl,hSw19, ?_⟩
   refine Bv 5 0 [] [[],[(ov (i6 ((i+1:Nat):Int))),o0]] [Wr ((i:Int)+1) (((i+1:Nat):Int))] [(2,.func (.func 36) #[] #[]),(3,pt z),(19,.slice (some ⟨b9,o10,none⟩) l.xs.length l.cap),(MQ l),(21,i6 ((i+1:Nat):Int))] rfl ⟨Dk,Ae⟩ ?_
   refine C9 [0,1,2] [(old F w),(DW pw F18 (((bs++[(l.xs.length:Int)])++(l.xs.take i).flatMap encPt)++encPt y16)),(Q8 z pw)] rfl rfl ?_
   refine Gw [2,3,19,20,21] [(2,.func (.func 36) #[] #[]),(3,pt z),(Po l),(MQ l),(21,i6 ((i+1:Nat):Int))] (by(try dsimp only[Q8,MQ,Po]);simp only[ha11];rfl) ?_
   refine CS (fun a w' hs=>⟨l.xs.length - (i+1),by omega,w19.heap.size,(i+1),F18,rfl,by omega,by omega,Oi hok (by rw[←hy16];exact ho20),by(try dsimp only[Q8,MQ,Po]at hs ⊢);rw[LK (by omega),←hy16,←List.append_assoc];exact hs⟩)
  have hnw19:n7+1≤w19.heap.size:=hmw19
  refine .inr ⟨_,_,rfl,hSw19, ?_⟩
  refine BM ?_
  intro w21 hw21
  refine .inr ⟨(SL (i:=i) (by omega) (by rw[←hy16];exact ho20)),rfl,Au hw21⟩
 refine A8 9 0 [0] [[oF]] [BF ((i:Int)<(l.xs.length:Int))] [(2,.func (.func 36) #[] #[]),(3,pt z),(Po l),(MQ l),(21,Aa i),(22,.bool false)] rfl ⟨bf,Ae⟩ ?_
 -- the function's end
 refine KR [] [] (.tuple #[]) Ae ?_
 intro w22 hw22
 have hD:=JX hw22 rfl (show w.heap.size≤n7 by omega) rfl (j:=1) rfl (by decide) hw
 rw[show i=l.xs.length from by omega,List.take_length,List.append_assoc]at hD
 exact .inl ⟨(Ti (by omega) (fun q hq=>hok q (by omega))),rfl,hD⟩
theorem putPt_satP{A:AW}{w:World}{i pw:Nat}{F:Nat→Prop}{bs:List Int}{kept:List Ch}(h:Sat A w)(is:List Nat)(hi:A.σ[i]? = some (DW pw F bs))(hnd:nodupB is=true)(hp:picks is A.σ=some kept)(hni:is.contains i=false)(l:Sl Ap)(hd:GU Ap.cells 8 Ap.ok (Dt w F) w l)(hl:bs.length+1792001≤2147483647):Calls Tryz.prog 35 #[.agg #[.pointer (some ⟨pw,0,none⟩)],.slice l.a l.xs.length l.cap,.func (.func 36) #[] #[]] w fun e w'=>(∃ F',Fp Lr l.xs=true∧e = .returned (.tuple #[])∧A.n≤w'.heap.size∧Sat { A with n:=w'.heap.size,σ:=A.σ.set i (DW pw F' (bs++Bj encPt l.xs)) } w')∨(Fp Lr l.xs=false∧e = .panicked Lm∧A.n≤w'.heap.size∧Sat { A with n:=w'.heap.size,σ:=kept } w') :=
 (putPt_calls w pw F bs (h.at hi) l hd hl).mono (fun e w' hP=>Kz h hi is hnd hp hni hP)
def Ic(a b:Int):Int:=IntKind.u32.wrap ((BitVec.ofInt IntKind.u32.bits a ^^^ BitVec.ofInt IntKind.u32.bits b).toNat)
def ba32(a b:Int):Int:=IntKind.u32.wrap ((BitVec.ofInt IntKind.u32.bits a &&& BitVec.ofInt IntKind.u32.bits b).toNat)
def OQ(n:Int):Int:=if ba32 n 1=1 then Ic (n / 2) 3988292384 else n / 2
theorem crcBit_yes{n:Int}(h:ba32 n 1=1):OQ n=Ic (n / 2) 3988292384:=if_pos h
theorem crcBit_no{n:Int}(h:¬ ba32 n 1=1):OQ n=n / 2:=if_neg h
def H9:Nat→Int→Int
 | 0,n=>n
 | k+1,n=>OQ (H9 k n)
def Lu(n x:Int):Int:=H9 8 (Ic n (IntKind.u32.wrap x))
def Ih(bs:List Int)(i:Nat):Int:=(bs.take i).foldl Lu 4294967295
theorem crcUp_succ{bs:List Int}{i:Nat}(h:i<bs.length):Ih bs (i+1)=H9 8 (Ic (Ih bs i) (IntKind.u32.wrap (gd bs i))):=by
 unfold Ih
 rw[List.take_succ_eq_append_getElem h,List.foldl_append,E5 h];rfl
def Ig(bs:List Int):Int:=Ic 4294967295 (Ih bs bs.length)
theorem bx32_in(a b:Int):0≤Ic a b∧Ic a b<4294967296:=by
 unfold Ic
 simp only[IntKind.wrap,IntKind.bits,IntKind.signed]
 simp
 omega
theorem Tz(bs:List Int):0≤Ig bs∧Ig bs<4294967296:=bx32_in _ _
theorem Ui{A:AW}{w:World}{i base:Nat}{a:Option Addr}{cap:Nat}{xs:List Int}(h:Sat A w)(hi:A.σ[i]? = some (BB base 5 1 Ew (.slice a xs.length cap) xs))(hl:xs.length≤140737488351232):FV Ew 1 Any w ⟨a,cap,xs⟩:=O8 (fun _=>rfl) (h.at hi) hl (fun _ _=>trivial)
section
variable {A:AW}{w:World}{i pw:Nat}{F:Nat→Prop}{bs:List Int}
theorem ZaT(h:Hg w pw F bs)(hl:bs.length≤2147483647):∃ pr ad cap at0,(∀ k v,[Value.pointer (some ⟨pr,0,none⟩)][k]? = some v→w.cell? ⟨pw,0+k,none⟩=some v)∧(∀ k v,[Value.slice ad bs.length cap,.int .i64 at0][k]? = some v→w.cell? ⟨pr,0+k,none⟩=some v)∧FV Ew 1 Any w ⟨ad,cap,bs⟩:=by
 obtain⟨pr,a,cap,at',h1,h2,h3, -⟩:=h
 exact⟨pr,a,cap,at',fun k v hv=>by rw[Nat.zero_add];exact h1.cell (by rw[←List.getElem?_toArray]at hv;exact hv),fun k v hv=>by rw[Nat.zero_add];exact h2.cell (by rw[←List.getElem?_toArray]at hv;exact hv),O8 (fun _=>rfl) h3 (by omega) (fun _ _=>trivial)⟩
theorem len_satW(h:Sat A w)(hi:A.σ[i]? = some (DW pw F bs))(hl:bs.length≤2147483647):Calls Tryz.prog 41 #[.pointer (some ⟨pw,0,none⟩)] w fun e w'=>e = .returned (.int .i64 (bs.length:Nat))∧BH (fun _=>False) w w':=by
 obtain⟨pr,ad,cap,at0,h1,h2,h3⟩:=ZaT (h.at hi) hl
 exact len1_calls w pw pr ad cap at0 bs h1 h2 h3 hl
theorem out_satW(h:Sat A w)(hi:A.σ[i]? = some (DW pw F bs))(hl:bs.length≤2147483647):Calls Tryz.prog 40 #[.pointer (some ⟨pw,0,none⟩)] w fun e w'=>∃ a cap,e = .returned (.slice a bs.length cap)∧A.n≤w'.heap.size∧Sat { A with n:=w'.heap.size,σ:=A.σ++[BB A.n 5 1 Ew (.slice a bs.length cap) bs] } w':=by
 obtain⟨pr,ad,cap,at0,h1,h2,h3⟩:=ZaT (h.at hi) hl
 refine(out1_calls w pw pr ad cap at0 bs h1 h2 h3 hl).mono ?_
 rintro e w' ⟨a,cap,rfl,ho,hk⟩
 rw[h.size]at ho
 exact⟨a,cap,rfl,AY h hk,h.Qy hk (BB A.n 5 1 Ew (.slice a bs.length cap) bs) ho (Gx _ _ _ _ _ _) (fun b hb=>ho.lt b hb)⟩
theorem newwr_sat(h:Sat A w):Calls Tryz.prog 30 #[] w fun e w'=>∃ pw F',e = .returned (.pointer (some ⟨pw,0,none⟩))∧A.n≤w'.heap.size∧Sat { A with n:=w'.heap.size,σ:=A.σ++[DW pw F' []] } w':=by
 refine(newwr_calls w).mono ?_
 rintro e w' ⟨pw,rfl,hW,hk⟩
 exact⟨pw,_,rfl,AY h hk,h.Qy hk (DW pw (fun b=>w.heap.size≤b∧b<w'.heap.size) []) hW (WI _ _ _) (fun b hb=>by
  have hb':w.heap.size≤b∧b<w'.heap.size:=hb
  rw[h.size]at hb';exact hb')⟩
end
section
variable (k:Nat)(b:Sl Int)(i:Nat)(y11:Int)(b4 o5:Nat)
abbrev Q3:Dv:=(3,.int .u32 (H9 k (Ic (Ih b.xs i) (IntKind.u32.wrap y11))))
abbrev Mc:Dv:=(7,.slice (some ⟨b4,o5,none⟩) b.xs.length b.cap)
abbrev Ju:=(8,Aa b.xs.length)
end
theorem Za2(w:World)(b:Sl Int)(hb:FV Ew 1 Any w b):Calls Tryz.prog 39 #[.slice b.a b.xs.length b.cap] w fun e w'=>e = .returned (.int .u32 (Ig b.xs))∧BH (fun _=>False) w w':=by
 obtain⟨z,hz⟩:∃ z,z=w.heap.size:=⟨_,rfl⟩
 refine BA (args:=[.slice b.a b.xs.length b.cap]) 31 ⟨w,z,[(Ak w)]⟩ Tryz.func39 rfl (by kernel_rfl) (by kernel_rfl) (En hz) ?_
 have hbl:=hb.len
 refine Cc [0] [(0,.slice b.a b.xs.length b.cap)] ?_
 refine A8 14 0 [] [[o0],[o0],[o0,o0,o0]] [] [(3,.int .u32 4294967295),(7,.slice b.a b.xs.length b.cap),(Ju b),(9,i6 0)] rfl Ae ?_
 refine DI (fun m a w'=>∃ (n2:Nat) (i:Nat),m=b.xs.length - i∧z≤n2∧(i≤b.xs.length)∧St 31 [(3,.int .u32 (Ih b.xs i)),(7,.slice b.a b.xs.length b.cap),(Ju b),(9,Aa i)] [] ⟨w,n2,[(Ak w)]⟩ a w') (b.xs.length - 0) ?_ ?_
 ·intro a w' hs;exact⟨z,0,rfl,Nat.le_refl _,Nat.zero_le _,by(try dsimp only[Ju]at hs ⊢);rw[show Ih b.xs 0=4294967295 from rfl];exact hs⟩
 rintro m a w' ⟨n2,i,rfl,hn1,hki,hs⟩
 refine(?_:G Tryz.prog 31 [(3,.int .u32 (Ih b.xs i)),(7,.slice b.a b.xs.length b.cap),(Ju b),(9,Aa i)] [] ⟨w,n2,[(Ak w)]⟩ _ _ _) a w' hs
 clear hs a w'
 refine Dl ?_
 by_cases h3:(i:Int)<(b.xs.length:Int)
 ·refine A8 10 0 [1] [[oT]] [BT ((i:Int)<(b.xs.length:Int))] [(3,.int .u32 (Ih b.xs i)),(7,.slice b.a b.xs.length b.cap),(Ju b),(9,Aa i),(10,.bool true)] rfl ⟨bt,Ae⟩ ?_
  obtain⟨b4,o5,ha6,hF8,hc7⟩:=((⟨hb,fun _ _=>trivial⟩:GU Ew 1 (fun _ _ _=>True) _ _ _)).1.all (show 0<b.xs.length by omega)
  replace ha6:b.a=some ⟨b4,o5,none⟩:=ha6
  refine J4 [(3,.int .u32 (Ih b.xs i)),(Mc b b4 o5),(Ju b),(9,Aa i),(10,.bool true)] (by(try dsimp only[Mc,Ju]);simp only[ha6]) ?_
  have hc9:=hc7 i (show i<b.xs.length by omega)
  have he10:=((⟨hb,fun _ _=>trivial⟩:GU Ew 1 (fun _ _ _=>True) _ _ _)).2 i (show i<b.xs.length by omega)
  obtain⟨y11,hy11⟩:∃ y_,y_=gd b.xs i:=⟨_,rfl⟩
  rw[←hy11]at he10 hc9
  refine A8 12 0 [] [[(oi i),(oa [.via 0 (.int .u8 y11)]),o0],[o0,o0,o0,o0,o0],[o0]] [Ea i,i<b.xs.length,Ec,Old w b4 (o5+i) (.int .u8 y11)] [(3,.int .u32 (Ic (Ih b.xs i) (IntKind.u32.wrap y11))),(Mc b b4 o5),(Ju b),(9,Aa i),(17,i6 0)] rfl ⟨rfl,(by omega),rfl,Aw (hc9 0 _ rfl),Ae⟩ ?_
  refine DI (fun m a w'=>∃ (n13:Nat) (k:Nat),m=8 - k∧n2≤n13∧(k≤8)∧St 31 [(Q3 k b i y11),(Mc b b4 o5),(Ju b),(9,Aa i),(17,Aa k)] [] ⟨w,n13,[(Ak w)]⟩ a w') (8 - 0) ?_ ?_
  ·intro a w' hs;exact⟨n2,0,rfl,Nat.le_refl _,Nat.zero_le _,by(try dsimp only[Q3,Mc,Ju]at hs ⊢);rw[show H9 0 (Ic (Ih b.xs i) (IntKind.u32.wrap y11))=(Ic (Ih b.xs i) (IntKind.u32.wrap y11))from rfl];exact hs⟩
  rintro m a w' ⟨n13,k,rfl,hn12,hkk,hs⟩
  refine(?_:G Tryz.prog 31 [(Q3 k b i y11),(Mc b b4 o5),(Ju b),(9,Aa i),(17,Aa k)] [] ⟨w,n13,[(Ak w)]⟩ _ _ _) a w' hs
  clear hs a w'
  refine Dl ?_
  by_cases h14:(k:Int)<8
  ·refine A8 18 0 [1] [[oT],[o0,o0,o0],[o0,(ov (.int .u32 ((H9 k (Ic (Ih b.xs i) (IntKind.u32.wrap y11))) / 2))),o0]] [BT ((k:Int)<8),Value.int .u32 (Int.fdiv ((H9 k (Ic (Ih b.xs i) (IntKind.u32.wrap y11)))) (2 ^ 1))=Value.int .u32 ((H9 k (Ic (Ih b.xs i) (IntKind.u32.wrap y11))) / 2)] [(3,.int .u32 ((H9 k (Ic (Ih b.xs i) (IntKind.u32.wrap y11))) / 2)),(Mc b b4 o5),(Ju b),(9,Aa i),(17,Aa k),(6,.int .u32 (ba32 (H9 k (Ic (Ih b.xs i) (IntKind.u32.wrap y11))) 1))] rfl ⟨bt,congrArg (Value.int .u32) (fdiv_is _ 1),Ae⟩ ?_
   by_cases h15:((ba32 (H9 k (Ic (Ih b.xs i) (IntKind.u32.wrap y11))) 1):Int)=1
   ·refine A8 10 0 [1] [[o0,oT],[o0,o0,o0],[(ov (i6 ((k+1:Nat):Int))),o0]] [ET (ba32 (H9 k (Ic (Ih b.xs i) (IntKind.u32.wrap y11))) 1) 1,Wr ((k:Int)+1) (((k+1:Nat):Int))] [(3,.int .u32 (Ic ((H9 k (Ic (Ih b.xs i) (IntKind.u32.wrap y11))) / 2) 3988292384)),(Mc b b4 o5),(Ju b),(9,Aa i),(17,i6 ((k+1:Nat):Int))] rfl ⟨et,Dk,Ae⟩ ?_
    refine CS (fun a w' hs=>⟨8 - (k+1),by omega,n13,(k+1),rfl,by omega,by omega,by(try dsimp only[Q3,Mc,Ju]at hs ⊢);rw[show H9 (k+1) (Ic (Ih b.xs i) (IntKind.u32.wrap y11))=OQ (H9 k (Ic (Ih b.xs i) (IntKind.u32.wrap y11)))from rfl,crcBit_yes (by omega)];exact hs⟩)
   refine A8 9 0 [0] [[o0,oF],[(ov (i6 ((k+1:Nat):Int))),o0]] [EF (ba32 (H9 k (Ic (Ih b.xs i) (IntKind.u32.wrap y11))) 1) 1,Wr ((k:Int)+1) (((k+1:Nat):Int))] [(3,.int .u32 ((H9 k (Ic (Ih b.xs i) (IntKind.u32.wrap y11))) / 2)),(Mc b b4 o5),(Ju b),(9,Aa i),(17,i6 ((k+1:Nat):Int))] rfl ⟨ef,Dk,Ae⟩ ?_
   refine CS (fun a w' hs=>⟨8 - (k+1),by omega,n13,(k+1),rfl,by omega,by omega,by(try dsimp only[Q3,Mc,Ju]at hs ⊢);rw[show H9 (k+1) (Ic (Ih b.xs i) (IntKind.u32.wrap y11))=OQ (H9 k (Ic (Ih b.xs i) (IntKind.u32.wrap y11)))from rfl,crcBit_no (by omega)];exact hs⟩)
  refine A8 13 0 [0] [[oF],[(ov (i6 ((i+1:Nat):Int))),o0]] [BF ((k:Int)<8),Wr ((i:Int)+1) (((i+1:Nat):Int))] [(Q3 k b i y11),(Mc b b4 o5),(Ju b),(9,i6 ((i+1:Nat):Int))] rfl ⟨bf,Dk,Ae⟩ ?_
  refine Gw [3,7,8,9] [(Q3 k b i y11),(7,.slice b.a b.xs.length b.cap),(Ju b),(9,i6 ((i+1:Nat):Int))] (by(try dsimp only[Q3,Mc,Ju]);simp only[ha6];rfl) ?_
  refine CS (fun a w' hs=>⟨b.xs.length - (i+1),by omega,n13,(i+1),rfl,by omega,by omega,by(try dsimp only[Q3,Mc,Ju]at hs ⊢);have h8:k=8:=(by omega);rw[h8]at hs;rw[crcUp_succ (by omega),←hy11];exact hs⟩)
 refine A8 15 0 [0] [[oF],[o0,o0,o0]] [BF ((i:Int)<(b.xs.length:Int))] [(2,.int .u32 (Ic 4294967295 (Ih b.xs i)))] rfl ⟨bf,Ae⟩ ?_
 refine AP [] [] (.int .u32 (Ic 4294967295 (Ih b.xs i))) Ae ?_
 intro w16 hw16
 have hie:i=b.xs.length:=by omega
 exact⟨by rw[hie];rfl,Au hw16⟩
end Go.Proofs.YtekjfiegdpoajaaGreatDoor.Cf
namespace Go.Proofs.YtekjfiegdpoajaaGreatDoor.Eng
open Go Go.Lib Go.Proofs.YtekjfiegdpoajaaGreatDoor.Mem
set_option linter.unusedSimpArgs false
set_option linter.unusedVariables false
section
variable {P:Program}{N:Nat}{env:Env}{ds:List Deferred}{A:AW}{ops:Array Oper}{l:List Oper}{s:List Kt}{Q:Exit→Act→World→Prop}{c:Code}
def J8(P:Program)(N:Nat)(ops:Array Oper)(env:Env):List Oper→Option (Nat×Nat×Nat×TypeId×Option Nat)
 | []=>none
 | o :: _=>match o.op,Kw ops env o,IP env o,KD N o.dst with
  | .convert src dst x,some true,true,true=>match Nat.beq src dst,P.underlying src,Fq env x with
   | true,some (.slice e),.slice (some ⟨b,0,none⟩) n cap=>match P.underlying e with
    | some (.int .u8)=>some (b,n,cap,e,o.dst)
    | _=>none
   | _,_,_=>none
  | _,_,_,_=>none
end
theorem Sat.join{A:AW}{w w0:World}{cs:List Ch}(h:Sat A w)(hO:Sat ⟨w0,A.n,cs⟩ w)(hd:∀ c∈A.σ,∀ d∈cs,∀ b,c.F b→¬ d.F b):Sat { A with σ:=A.σ++cs } w:=by
 refine⟨h.os,h.tape,h.output,h.size, ?_, ?_, ?_, ?_⟩
 ·intro c hc
  rcases List.mem_append.1 hc with hc | hc
  ·exact h.all c hc
  exact hO.all c hc
 ·intro c hc
  rcases List.mem_append.1 hc with hc | hc
  ·exact h.bnd c hc
  exact hO.bnd c hc
 ·intro c hc
  rcases List.mem_append.1 hc with hc | hc
  ·exact h.NJ c hc
  exact hO.NJ c hc
 show((A.σ++cs).map Ch.key).Pairwise Key.apart
 rw[List.map_append,List.pairwise_append]
 refine⟨h.Md,hO.Md, ?_⟩
 intro k hk l hl _ b hb hb'
 obtain⟨c,hc,rfl⟩:=List.mem_map.1 hk
 obtain⟨d,hd',rfl⟩:=List.mem_map.1 hl
 exact hd c hc d hd' b hb hb'
theorem Sat.turnMade{A:AW}{w w' w0:World}{cs:List Ch}(h:Sat A w){i:Nat}{c c':Ch}(hi:A.σ[i]? = some c)(hrw:c.rw=true)(hrw':c'.rw=true)(hk:BH c.F w w')(hh:c'.holds w')(hst:c'.stable)
   (hF:∀ b,c'.F b→c.F b) (hO:Sat ⟨w0,w'.heap.size,cs⟩ w') (hn:∀ d∈cs,∀ b,d.F b→w.heap.size≤b):Sat { A with n:=w'.heap.size,σ:=A.σ.set i c'++cs } w':=by
 have hsz:A.n≤w'.heap.size:=by have:=hk.size;rw[h.size]at this;exact this
 have h1:=h.Zk hi hrw hrw' hk hh hst (fun b hb=> .inl (hF b hb)) (fun b hb=>Nat.lt_of_lt_of_le (h.bnd c (List.mem_of_getElem? hi) b (hF b hb)) hsz)
 refine h1.join hO ?_
 intro d hd e he b hb hb'
 have h2:=hn e he b hb'
 rw[h.size]at h2
 rcases List.mem_or_eq_of_mem_set hd with hd | rfl
 · have:=h.bnd d hd b hb;omega
 · have:=h.bnd c (List.mem_of_getElem? hi) b (hF b hb);omega
theorem Sat.low{A:AW}{w:World}(h:Sat A w)(σ':List Ch)(hk:σ'.map Ch.key=A.σ.map Ch.key)(hh:∀ c∈σ',c.holds w∧c.stable):Sat { A with σ:=σ' } w:=by
 refine⟨h.os,h.tape,h.output,h.size,fun c hc=>(hh c hc).1, ?_,fun c hc=>(hh c hc).2, ?_⟩
 ·intro c hc b hb
  have hm:c.key∈A.σ.map Ch.key:=by rw[←hk];exact List.mem_map_of_mem hc
  obtain⟨d,hd,hde⟩:=List.mem_map.1 hm
  have hF:d.F=c.F:=congrArg Prod.fst hde
  exact h.bnd d hd b (by rw[hF];exact hb)
 show(σ'.map Ch.key).Pairwise Key.apart
 rw[hk];exact h.Md
theorem Zm{α:Type}{base b2:Nat}{e:TypeId}{sz:Nat}{cells:α→List Value}{v:Value}{xs:List α}{w:World}(h:(BB base e sz cells v xs).holds w)(hb:b2≤base):(BB b2 e sz cells v xs).holds w:=by
 have h':w.ownsRow base e sz v xs.length (xs.flatMap cells):=h
 show w.ownsRow b2 e sz v xs.length (xs.flatMap cells)
 refine⟨h'.1, ?_⟩
 rcases h'.2 with h | ⟨g,cp,cur,e1,hg,h⟩
 ·exact .inl h
 exact .inr ⟨g,cp,cur,e1,Nat.le_trans hb hg,h⟩
theorem fam_low{α:Type}{base b2:Nat}{e:TypeId}{sz:Nat}{cells:α→List Value}{hs:List (Sl α)}{w:World}(h:(Ed base e sz cells hs).holds w)(hb:b2≤base):(Ed b2 e sz cells hs).holds w:=by
 have h':(∀ s∈hs,w.ownsRow base e sz s.val s.xs.length (s.xs.flatMap cells))∧hs.Pairwise (fun s t=>∀ b,s.val.ownBlock=some b→t.val.ownBlock≠some b):=h
 exact⟨fun s hs'=>Zm (v:=s.val) (xs:=s.xs) (h'.1 s hs') hb,h'.2⟩
section
variable {P:Program}{N:Nat}{env:Env}{ds:List Deferred}{A:AW}{ops:Array Oper}{l:List Oper}{s:List Kt}{Q:Exit→Act→World→Prop}
theorem conv_run{o:Oper}{a:Option Addr}{n cap:Nat}{d:Option Nat}{xs:List Int}{a0:Act}{w:World}(h:convA P N ops env [o]=some (a,n,cap,d))(hst:St N env ds A a0 w)(hr:∀ x∈xs,0≤x∧x<256)(hsl:FV Ew 1 Any w ⟨a,cap,xs⟩)(hn:xs.length=n) :
   Region.wanted o (yielded ops a0.tmps)=true∧o.dst=d∧KD N d=true∧(execOp a0.eval o).run P w = .ok (.value (.string (strOf xs))) w:=by
 simp only[convA]at h
 split at h
 · rename_i src dst x hop hw hkn hdst
   split at h
   · rename_i e a1 n1 cap1 hs hd1 hx
     split at h
     · rename_i he
       simp only[Option.some.injEq,Prod.mk.injEq]at h
       obtain⟨rfl,rfl,rfl,rfl⟩:=h
       have hrun:(convert src dst (.slice a1 n1 cap1)).run P w = .ok (.string (strOf xs)) w:=by
         subst hn
         by_cases h0:xs=[]
         · subst h0
           have:=run_convert_bytes_string (P:=P) w src dst e a1 0 cap1 hs he hd1
           rw[show([]:List Int).length=0 from rfl,this]
           cases a1 <;> simp[Conv.bytesToString,Builtin.firstCells,loadCells,loadCellsFrom,strOf] <;> rfl
         · obtain⟨b,off,ha, -,hc⟩:=hsl.cells h0
           simp only at ha
           subst ha
           have:=run_convert_bytes_back (P:=P) w src dst e ⟨b,off,none⟩ cap1 (xs.map (fun x=>UInt8.ofNat x.toNat)) hs he hd1 (fun j hj=>by
             rw[List.length_map]at hj
             have h1:=hc j hj 0 (.int .u8 xs[j]) rfl
             rw[Jk,Nat.mul_one,Nat.add_zero]at h1
             rw[MF rfl,h1,List.getElem_map]
             have h2:=hr xs[j] (List.getElem_mem hj)
             congr 2
             rw[UInt8.toNat_ofNat_of_lt' (by show _<256;omega)]
             omega)
           rw[List.length_map]at this
           exact this
       refine⟨EI hw hst,rfl,hdst, ?_⟩
       rw[Gm hst hkn]
       unfold execOp
       simp only[hop,hx,Sem.run_bind,hrun,Result.andThen_ok,Sem.run_pure]
     · cases h
   · cases h
 · cases h
theorem wo_toStr{σC:List Ch}{late fuel:Nat}{listed:List Bool}{p:Nat}(k:Nat)(xs:List Int)(a:Option Addr)(n cap:Nat)(c0:Ch)(d:Option Nat)(cix:List Nat)(hr:∀ x∈xs,0≤x∧x<256)(hd:∀ w',c0.holds w'→FV Ew 1 Any w' ⟨a,cap,xs⟩)
   (hC:Nat.beq p late=true∨picks cix A.σ=some σC)
   (K:Wg P N (GG env d (.string (strOf xs))) ds A ops σC late fuel (listed.set p true) s Q) (hn:xs.length=n:=by rfl)
   (hp:Nat.blt p listed.length=true:=by rfl)
   (h:(match ops[p]? with | some o=>convA P N ops env [o] | none=>none)=some (a,n,cap,d):=by as_aux_lemma=>kernel_rfl) (hk:A.σ[k]? = some c0:=by rfl):WO P N env ds A ops σC late fuel listed s Q p:=by
 intro a0 w hst hcl
 have hlt:p<listed.length:=by simpa using hp
 split at h
 · rename_i o ho
   obtain⟨hw,hod,hdd,hrun⟩:=conv_run h hst hr (hd w (hst.mem.at hk)) hn
   unfold wpOp
   simp only[ho]
   rw[if_pos hw]
   left
   unfold Oper.wp
   rw[hrun]
   have hcs:=cs_of (listed:=listed) hcl hC hlt hst.mem
   refine⟨hcs, ?_⟩
   rw[hod]
   exact K _ _ (hst.put hst.mem _ hdd _) hcl hcs
 · cases h
end
theorem e_retD0{P:Program}{N:Nat}{env:Env}{A:AW}{s:List Kt}{fn:Func}{R:Ending→World→Prop}(K:E P N env [] A .ret [] (bodyPost P fn R)):E P N env [] A .ret s (bodyPostD P fn R):=fun a w hst=>UM s (by
 show Leaves P fn a.tmps R a.defers .returning w
 rw[hst.df]
 obtain⟨-,v',hr,hR⟩:=K a w hst
 exact⟨v',hr,hR⟩)
theorem sl_sub{α:Type}{cells:α→List Value}{sz:Nat}{F:Nat→Prop}{w:World}{cap:Nat}{xs:List α}{b off:Nat}(h:FV cells sz F w ⟨some ⟨b,off,none⟩,cap,xs⟩){i n:Nat}(hi:i+n≤xs.length)(hn:xs≠[]):FV cells sz F w ⟨some ⟨b,off+GI sz i,none⟩,cap - i,(xs.drop i).take n⟩:=by
 have h1:=h.len
 have h2:=h.le
 simp only at h1 h2
 have hl:((xs.drop i).take n).length=n:=by rw[List.length_take,List.length_drop];omega
 refine⟨by simp only[hl];omega,by simp only[hl];omega,fun _ => ?_⟩
 obtain⟨b',off',ha,hF,hc⟩:=h.cells hn
 simp only[Option.some.injEq,Addr.mk.injEq]at ha
 obtain⟨rfl,rfl, -⟩:=ha
 refine⟨b,off+GI sz i,rfl,hF,fun j hj k v hv => ?_⟩
 simp only[hl]at hj
 have hx:((xs.drop i).take n)[j]'(by rw[hl];exact hj)=xs[i+j]'(by omega):=by simp
 simp only[hx]at hv
 have h3:=hc (i+j) (by simp only;omega) k v hv
 rw[Jk,Jk]at *
 rw[show off+i*sz+j*sz+k=off+(i+j)*sz+k from by rw[Nat.add_mul];omega]
 exact h3
theorem sl_none{α:Type}{cells:α→List Value}{sz:Nat}{F:Nat→Prop}{w:World}(a:Option Addr)(cap:Nat):FV cells sz F w ⟨a,cap,[]⟩:=⟨Nat.zero_le _,Nat.zero_le _,fun h=>absurd rfl h⟩
end Go.Proofs.YtekjfiegdpoajaaGreatDoor.Eng
namespace Go.Proofs.YtekjfiegdpoajaaGreatDoor.Cf
open Go Go.Proofs.YtekjfiegdpoajaaGreatDoor.Eng Go.Proofs.YtekjfiegdpoajaaGreatDoor.Mem Go.Proofs.YtekjfiegdpoajaaGreatDoor.Ly
set_option linter.unusedSimpArgs false
set_option linter.unusedVariables false
set_option maxRecDepth 100000
inductive PR(α:Type) where
 | ok (x:α) (at':Nat)
 | no (at':Nat)
def PR.bind{α β:Type}(r:PR α)(f:α→Nat→PR β):PR β:=match r with
 | .ok x a=>f x a
 | .no a=> .no a
theorem PR.bind_ok{α β:Type}(x:α)(a:Nat)(f:α→Nat→PR β):(PR.ok x a).bind f=f x a:=rfl
theorem PR.Ey{α β:Type}(a:Nat)(f:α→Nat→PR β):(PR.no a:PR α).bind f = .no a:=rfl
def hv(b:List Int)(at' k:Nat):Nat→Int
 | 0=>0
 | j+1=>hv b at' k j*256+gd b ((at':Int)+((k:Int) - 1 - (j:Int))).toNat
def AB(b:List Int)(at' k:Nat):Int:=hv b at' k k
def Gj(xs:List Int):Prop:=∀ x∈xs,0≤x∧x<256
theorem J7{b:List Int}(h:Gj b)(i:Nat):0≤gd b i∧gd b i<256:=by
 by_cases hi:i<b.length
 ·rw[E5 hi];exact h _ (List.getElem_mem hi)
 have h0:gd b i=0:=by unfold Eng.gd;rw[List.getD_eq_getElem?_getD,List.getElem?_eq_none (by omega)];rfl
 omega
theorem hv_bd{b:List Int}(h:Gj b)(at' k:Nat):∀ j:Nat,0≤hv b at' k j∧hv b at' k j<256 ^ j
 | 0=>by simp[hv]
 | j+1=>by
  have h1:=hv_bd h at' k j
  have h2:=J7 h ((at':Int)+((k:Int) - 1 - (j:Int))).toNat
  rw[hv,Int.pow_succ]
  omega
theorem WN{b:List Int}(h:Gj b)(at' k j:Nat)(hj:j≤4):0≤hv b at' k j∧hv b at' k j≤4294967295∧(j≤3→hv b at' k j≤16777215)∧(j≤1→hv b at' k j≤255):=by
 have h1:=hv_bd h at' k j
 rcases(by omega:j=0∨j=1∨j=2∨j=3∨j=4)with rfl | rfl | rfl | rfl | rfl <;> simp at h1 <;> omega
theorem Eo{b:List Int}(h:Gj b)(at':Nat):0≤AB b at' 4∧AB b at' 4≤4294967295:=by
 have:=WN h at' 4 4 (by omega)
 unfold AB;omega
theorem Tt{b:List Int}(at':Nat):AB b at' 1=gd b at':=by
 unfold AB hv hv
 rw[show((at':Int)+(((1:Nat):Int) - 1 - ((0:Nat):Int))).toNat=at' from by omega];omega
theorem or_is{n x:Int}(h0:0≤n)(h1:n≤16777215)(h2:0≤x)(h3:x<256):IntKind.u64.wrap ((BitVec.ofInt IntKind.u64.bits (n*256) ||| BitVec.ofInt IntKind.u64.bits x).toNat)=n*256+x:=by
 obtain⟨a,rfl⟩:=Int.eq_ofNat_of_zero_le h0
 obtain⟨c,rfl⟩:=Int.eq_ofNat_of_zero_le h2
 have e1:(BitVec.ofInt IntKind.u64.bits ((a:Int)*256)).toNat=256*a:=by
  rw[BitVec.toNat_ofInt];show(((a:Int)*256) % ((2 ^ 64:Nat):Int)).toNat=_;omega
 have e2:(BitVec.ofInt IntKind.u64.bits (c:Int)).toNat=c:=by
  rw[BitVec.toNat_ofInt];show((c:Int) % ((2 ^ 64:Nat):Int)).toNat=_;omega
 rw[BitVec.toNat_or,e1,e2]
 have e3:256*a ||| c=256*a+c:=(Nat.two_pow_add_eq_or_of_lt (i:=8) (by omega) a).symm
 rw[e3]
 exact Uk (by omega) (by omega) (by omega)
def D5(w:World)(pr:Nat)(F:Nat→Prop)(b:List Int)(at':Nat)(fl:Int):Prop :=
 ∃ (po:Nat) (l:Sl Int),l.xs=b∧At w pr (.cells #[.pointer (some ⟨po,0,none⟩),.int .i64 fl] 151 (0,0))∧At w po (.cells #[.slice l.a l.xs.length l.cap,.int .i64 (at':Nat)] 118 (0,0))∧FV Ew 1 (fun x=>F x∧x≠pr∧x≠po) w l∧pr≠po∧F pr∧F po∧at'≤b.length∧Gj b∧b.length≤16384∧(∀ x,F x→x<w.heap.size)
theorem D5.le{w:World}{pr:Nat}{F:Nat→Prop}{b:List Int}{at':Nat}{fl:Int}(h:D5 w pr F b at' fl):at'≤b.length:=by obtain⟨_,_, -, -, -, -, -, -, -,h, -⟩:=h;exact h
theorem D5.Ou{w:World}{pr:Nat}{F:Nat→Prop}{b:List Int}{at':Nat}{fl:Int}(h:D5 w pr F b at' fl):Gj b:=by obtain⟨_,_, -, -, -, -, -, -, -, -,h, -⟩:=h;exact h
theorem D5.len{w:World}{pr:Nat}{F:Nat→Prop}{b:List Int}{at':Nat}{fl:Int}(h:D5 w pr F b at' fl):b.length≤16384:=by obtain⟨_,_, -, -, -, -, -, -, -, -, -,h, -⟩:=h;exact h
theorem D5.bound{w:World}{pr:Nat}{F:Nat→Prop}{b:List Int}{at':Nat}{fl:Int}(h:D5 w pr F b at' fl):∀ x,F x→x<w.heap.size:=by obtain⟨_,_, -, -, -, -, -, -, -, -, -, -,h⟩:=h;exact h
theorem D5.same{w w':World}{pr:Nat}{F:Nat→Prop}{b:List Int}{at':Nat}{fl:Int}(h:D5 w pr F b at' fl)(hb:∀ b,F b→w'.heap[b]? = w.heap[b]?):D5 w' pr F b at' fl:=by
 obtain⟨po,l,e,h1,h2,h3,h4,h5,h6,h7,h8,h9,h10⟩:=h
 refine⟨po,l,e,(hb _ h5).trans h1,(hb _ h6).trans h2,Jy (fun x k v hx hv=>cell_of (hb x hx.1) hv) (fun _ h=>h) h3,h4,h5,h6,h7,h8,h9,fun x hx => ?_⟩
 have g1:=h10 x hx
 have g2:=hb x hx
 rcases Nat.lt_or_ge x w'.heap.size with h3 | h3
 ·exact h3
 rw[Array.getElem?_eq_none h3,Array.getElem?_eq_getElem g1]at g2;cases g2
def CG(pr:Nat)(F:Nat→Prop)(b:List Int)(at':Nat)(fl:Int):Ch:= .inv F (fun w=>D5 w pr F b at' fl) true
theorem RF(pr:Nat)(F:Nat→Prop)(b:List Int)(at':Nat)(fl:Int):(CG pr F b at' fl).stable:=fun w w' h hw=>D5.same hw h
theorem H8{w:World}{pr:Nat}{F:Nat→Prop}{b:List Int}{at':Nat}{fl:Int}(h:D5 w pr F b at' fl):Sat ⟨w,w.heap.size,[old F w,CG pr F b at' fl]⟩ w :=
 P9 w _ _ (fun c hc=>by
  simp only[List.mem_singleton]at hc;subst hc
  exact⟨h,RF _ _ _ _ _,fun b hb=>⟨h.bound b hb,hb⟩⟩) (by simp)
theorem sat_two{w:World}{p q:Nat}{cp cq:Array Value}{tp tq:TypeId}(hp:At w p (.cells cp tp (0,0)))(hq:At w q (.cells cq tq (0,0)))(hpq:p≠q):Sat ⟨w,w.heap.size,[old (fun b=>b=p∨b=q) w,.blk p (.cells cp tp (0,0)) true,.blk q (.cells cq tq (0,0)) true]⟩ w :=
 P9 w _ _ (fun c hc=>by
  simp only[List.mem_cons,List.not_mem_nil,or_false]at hc
  rcases hc with rfl | rfl
  ·exact⟨hp,Ch.EJ _ _ _,fun b hb=>by
    have hb':b=p:=hb
    exact⟨by rw[hb'];exact(Array.getElem?_eq_some_iff.1 hp).1,.inl hb'⟩⟩
  ·exact⟨hq,Ch.EJ _ _ _,fun b hb=>by
    have hb':b=q:=hb
    exact⟨by rw[hb'];exact(Array.getElem?_eq_some_iff.1 hq).1,.inr hb'⟩⟩) (by
  simp only[List.map_cons,List.map_nil,List.pairwise_cons,List.mem_singleton,forall_eq,List.not_mem_nil,false_imp_iff,implies_true,List.Pairwise.nil,and_true]
  intro _ b hb hb2
  have h1:b=p:=hb
  have h2:b=q:=hb2
  exact hpq (h1.symm.trans h2))
theorem DJ{A:AW}{w w':World}{i pr:Nat}{F:Nat→Prop}{b:List Int}{at0 at':Nat}{fl0 fl:Int}(h:Sat A w)(hi:A.σ[i]? = some (CG pr F b at0 fl0))(hR:D5 w' pr F b at' fl)(hk:BH F w w'):A.n≤w'.heap.size∧Sat { A with n:=w'.heap.size,σ:=A.σ.set i (CG pr F b at' fl) } w' :=
 ⟨AY h hk,h.Zk hi rfl rfl hk hR (RF _ _ _ _ _) (fun b hb=> .inl hb) hR.bound⟩
def NumRaw(w:World)(pr po:Nat)(l:Sl Int)(at' k:Nat)(K:IntKind)(e:Ending)(w':World):Prop :=
 ((at'+k≤l.xs.length∧e = .returned (.int K (AB l.xs at' k))∧At w' pr (.cells #[.pointer (some ⟨po,0,none⟩),.int .i64 0] 151 (0,0))∧At w' po (.cells #[.slice l.a l.xs.length l.cap,.int .i64 ((at'+k:Nat):Int)] 118 (0,0))) ∨
  (l.xs.length<at'+k∧e = .returned (.int K 0)∧At w' pr (.cells #[.pointer (some ⟨po,0,none⟩),.int .i64 12] 151 (0,0))∧At w' po (.cells #[.slice l.a l.xs.length l.cap,.int .i64 (at':Nat)] 118 (0,0))))∧BH (fun b=>b=pr∨b=po) w w'
theorem WF{w w':World}{pr po:Nat}{F:Nat→Prop}{l:Sl Int}{at0 at':Nat}{fl0 fl:Int}(h:D5 w pr F l.xs at0 fl0)(hk:BH (fun b=>b=pr∨b=po) w w')(h1:At w' pr (.cells #[.pointer (some ⟨po,0,none⟩),.int .i64 fl] 151 (0,0)))(h2:At w' po (.cells #[.slice l.a l.xs.length l.cap,.int .i64 (at':Nat)] 118 (0,0)))
   (hne:pr≠po) (hFr:F pr) (hFo:F po) (hl:FV Ew 1 (fun x=>F x∧x≠pr∧x≠po) w l) (hat:at'≤l.xs.length):D5 w' pr F l.xs at' fl∧BH F w w':=by
 have hsz:=hk.size
 refine⟨⟨po,l,rfl,h1,h2,Jy (fun x k v hx hv=>cell_of (hk.block x (h.bound x hx.1) (fun hc=>hc.elim hx.2.1 hx.2.2)) hv) (fun _ h=>h) hl,hne,hFr,hFo,hat,h.Ou,h.len,fun x hx=>Nat.lt_of_lt_of_le (h.bound x hx) hsz⟩,hk.mono (fun b _ hb => ?_)⟩
 rcases hb with rfl | rfl
 · exact hFr
 · exact hFo
theorem Sat.pq2{A:AW}{w w':World}{i j p q:Nat}{cp cq:Array Value}{tp tq:TypeId}{kept:List Ch}(h:Sat A w)(is:List Nat)(hi:A.σ[i]? = some (.blk p (.cells cp tp (0,0)) true))(hj:A.σ[j]? = some (.blk q (.cells cq tq (0,0)) true))(hne:i≠j)(hnd:nodupB is=true)(hp:picks is A.σ=some kept)(hni:is.contains i=false)(hnj:is.contains j=false){cp' cq':Array Value}(h1:At w' p (.cells cp' tp (0,0)))(h2:At w' q (.cells cq' tq (0,0)))(hk:BH (fun b=>b=p∨b=q) w w') :
   Sat { A with n:=w'.heap.size,σ:=kept++[.blk p (.cells cp' tp (0,0)) true,.blk q (.cells cq' tq (0,0)) true] } w':=by
 have hpk:picks [i,j] A.σ=some [.blk p (.cells cp tp (0,0)) true,.blk q (.cells cq tq (0,0)) true]:=by simp[picks,hi,hj]
 refine h.turn is [i,j] hnd hp hpk (by
   rw[List.all_eq_true]
   intro k hk
   rw[List.contains_eq_mem]at hni hnj
   simp only[decide_eq_false_iff_not]at hni hnj
   simp only[List.contains_cons,List.contains_nil,Bool.or_false,Bool.not_eq_true',Bool.or_eq_false_iff,beq_eq_false_iff_ne]
   exact⟨fun e=>hni (e ▸ hk),fun e=>hnj (e ▸ hk)⟩) (fun c hc=>by simp only[List.mem_cons,List.not_mem_nil,or_false]at hc;rcases hc with rfl | rfl <;> rfl) (hk.mono (fun b _ hb=>hb.elim (fun x=>⟨_,List.mem_cons_self ..,x⟩) (fun x=>⟨_,List.mem_cons_of_mem _ (List.mem_cons_self ..),x⟩))) (fun c hc=>by
   simp only[List.mem_cons,List.not_mem_nil,or_false]at hc
   rcases hc with rfl | rfl
   · exact⟨h1,Ch.EJ _ _ _,fun b hb=>by
       have hb':b=p:=hb
       subst hb'
       exact⟨(Array.getElem?_eq_some_iff.1 h1).1,.inl ⟨_,List.mem_cons_self ..,rfl⟩⟩⟩
   · exact⟨h2,Ch.EJ _ _ _,fun b hb=>by
       have hb':b=q:=hb
       subst hb'
       exact⟨(Array.getElem?_eq_some_iff.1 h2).1,.inl ⟨_,List.mem_cons_of_mem _ (List.mem_cons_self ..),rfl⟩⟩⟩) ?_
 simp only[List.map_cons,List.map_nil,List.pairwise_cons,List.mem_singleton,forall_eq,List.not_mem_nil,false_imp_iff,implies_true,List.Pairwise.nil,and_true]
 intro _ b hb hb2
 exact h.two hi hj hne rfl b hb hb2
def ZH(w:World)(pr:Nat)(F:Nat→Prop)(b:List Int)(at' k:Nat)(K:IntKind)(e:Ending)(w':World):Prop :=
 (at'+k≤b.length∧e = .returned (.int K (AB b at' k))∧D5 w' pr F b (at'+k) 0∧BH F w w')∨(b.length<at'+k∧e = .returned (.int K 0)∧D5 w' pr F b at' 12∧BH F w w')
theorem Za8(w:World)(po:Nat)(l:Sl Int)(at0:Nat)(h2:At w po (.cells #[.slice l.a l.xs.length l.cap,.int .i64 (at0:Nat)] 118 (0,0)))(hat:at0≤l.xs.length)(hlen:l.xs.length≤16384):Calls Tryz.prog 106 #[.pointer (some ⟨po,0,none⟩)] w fun e w'=>e = .returned (.int .i64 ((l.xs.length:Int) - (at0:Nat)))∧BH (fun _=>False) w w':=by
 obtain⟨z,hz⟩:∃ z,z=w.heap.size:=⟨_,rfl⟩
 refine BA (args:=[pt po]) 15 ⟨w,z,[(Ak w)]⟩ Tryz.func106 rfl (by kernel_rfl) (by kernel_rfl) (En hz) ?_
 have hpo:∀ k v,[Value.slice l.a l.xs.length l.cap,i6 (at0:Nat)][k]? = some v→w.cell? ⟨po,0+k,none⟩=some v:=fun k v hv=>by rw[Nat.zero_add];exact h2.cell (by rw[←List.getElem?_toArray]at hv;exact hv)
 refine Cc [0] [(0,pt po)] ?_
 refine A8 13 0 [0] [[o0],[o0,o0]] [] [(0,pt po),(4,.bool false)] rfl Ae ?_
 refine DK 11 [0] [(Ak w)] rfl rfl ?_
 refine CP [(0,o0),(1,o0),(2,o0),(3,(oa [.via 0 (.slice l.a l.xs.length l.cap)])),(4,o0),(5,o0),(6,o0),(7,o0),(8,(oa [.via 0 (Aa at0)])),(9,(ov (i6 ((l.xs.length:Int) - (at0:Int))))),(10,o0)] [2] [Old w po 0 (.slice l.a l.xs.length l.cap),Old w po 1 (Aa at0),Wr ((l.xs.length:Int) - (at0:Int)) ((l.xs.length:Int) - (at0:Int))] (Dy 11 0) [(2,i6 ((l.xs.length:Int) - (at0:Int)))] ⟨Aw (hpo 0 _ rfl),Aw (hpo 1 _ rfl),Dk,Ae⟩ ?_
 refine CQ ?_
 refine Cb [2] [(2,i6 ((l.xs.length:Int) - (at0:Int)))] ?_
 refine FX <| Jh <| AP [] [] (i6 ((l.xs.length:Int) - (at0:Int))) Ae ?_
 intro w1 hw1
 exact⟨rfl,Au hw1⟩
theorem rowat_calls(w:World)(po:Nat)(l:Sl Int)(at0:Nat)(h2:At w po (.cells #[.slice l.a l.xs.length l.cap,.int .i64 (at0:Nat)] 118 (0,0)))(hat:at0≤l.xs.length)(hlen:l.xs.length≤16384):Calls Tryz.prog 104 #[.pointer (some ⟨po,0,none⟩)] w fun e w'=>e = .returned (.int .i64 (at0:Nat))∧BH (fun _=>False) w w':=by
 obtain⟨z,hz⟩:∃ z,z=w.heap.size:=⟨_,rfl⟩
 refine BA (args:=[pt po]) 9 ⟨w,z,[(Ak w)]⟩ Tryz.func104 rfl (by kernel_rfl) (by kernel_rfl) (En hz) ?_
 have hpo:∀ k v,[Value.slice l.a l.xs.length l.cap,i6 (at0:Nat)][k]? = some v→w.cell? ⟨po,0+k,none⟩=some v:=fun k v hv=>by rw[Nat.zero_add];exact h2.cell (by rw[←List.getElem?_toArray]at hv;exact hv)
 refine Cc [0] [(0,pt po)] ?_
 refine A8 17 0 [0] [[o0],[o0,o0],[o0,o0,o0,(oa [.via 0 (Aa at0)]),o0]] [Old w po 1 (Aa at0)] [(2,Aa at0)] rfl ⟨Aw (hpo 1 _ rfl),Ae⟩ ?_
 refine AP [] [] (Aa at0) Ae ?_
 intro w1 hw1
 exact⟨rfl,Au hw1⟩
theorem XV{w w':World}{b:Nat}{o:Obj}(h:(old (fun _=>False) w).holds w')(ha:At w b o):At w' b o:=(h b (Array.getElem?_eq_some_iff.1 ha).1 id).trans ha
theorem VE(w:World)(pr po:Nat)(l:Sl Int)(at0:Nat)(fl:Int)(h1:At w pr (.cells #[.pointer (some ⟨po,0,none⟩),.int .i64 fl] 151 (0,0)))(h2:At w po (.cells #[.slice l.a l.xs.length l.cap,.int .i64 (at0:Nat)] 118 (0,0)))(hat:at0≤l.xs.length)(hlen:l.xs.length≤16384):Calls Tryz.prog 59 #[.pointer (some ⟨pr,0,none⟩)] w fun e w'=>e = .returned (.int .i64 ((l.xs.length:Int) - (at0:Nat)))∧BH (fun _=>False) w w':=by
 obtain⟨z,hz⟩:∃ z,z=w.heap.size:=⟨_,rfl⟩
 refine BA (args:=[pt pr]) 10 ⟨w,z,[(Ak w)]⟩ Tryz.func59 rfl (by kernel_rfl) (by kernel_rfl) (En hz) ?_
 have hpr:∀ k v,[pt po,i6 fl][k]? = some v→w.cell? ⟨pr,0+k,none⟩=some v:=fun k v hv=>(by rw[Nat.zero_add];exact h1.cell (by rw[←List.getElem?_toArray]at hv;exact hv));have hpo:∀ k v,[Value.slice l.a l.xs.length l.cap,i6 (at0:Nat)][k]? = some v→w.cell? ⟨po,0+k,none⟩=some v:=fun k v hv=>(by rw[Nat.zero_add];exact h2.cell (by rw[←List.getElem?_toArray]at hv;exact hv))
 refine Cc [0] [(0,pt pr)] ?_
 refine A8 14 4 [0] [[o0],[o0,o0],[o0,o0,o0,(oa [.via 0 (pt po)])]] [Old w pr 0 (pt po)] [(8,pt po)] rfl ⟨Aw (hpr 0 _ rfl),Ae⟩ ?_
 refine BV 106 #[pt po] (some 9) (i6 ((l.xs.length:Int) - (at0:Nat))) (fun w1 hw1=>Za8 w1 po l at0 (XV (hw1.at (i:=0) rfl) h2) hat hlen) (fun n2 (hn3:z≤n2) => ?_)
 refine Bv 3 0 [] [[o0]] [] [(2,i6 ((l.xs.length:Int) - (at0:Nat)))] rfl Ae ?_
 refine AP [] [] (i6 ((l.xs.length:Int) - (at0:Nat))) Ae ?_
 intro w4 hw4
 exact⟨rfl,Au hw4⟩
theorem Df(w:World)(pr po:Nat)(l:Sl Int)(at0:Nat)(fl:Int)(h1:At w pr (.cells #[.pointer (some ⟨po,0,none⟩),.int .i64 fl] 151 (0,0)))(h2:At w po (.cells #[.slice l.a l.xs.length l.cap,.int .i64 (at0:Nat)] 118 (0,0)))(hat:at0≤l.xs.length)(hlen:l.xs.length≤16384):Calls Tryz.prog 57 #[.pointer (some ⟨pr,0,none⟩)] w fun e w'=>e = .returned (.int .i64 (at0:Int))∧BH (fun _=>False) w w':=by
 obtain⟨z,hz⟩:∃ z,z=w.heap.size:=⟨_,rfl⟩
 refine BA (args:=[pt pr]) 10 ⟨w,z,[(Ak w)]⟩ Tryz.func57 rfl (by kernel_rfl) (by kernel_rfl) (En hz) ?_
 have hpr:∀ k v,[pt po,i6 fl][k]? = some v→w.cell? ⟨pr,0+k,none⟩=some v:=fun k v hv=>(by rw[Nat.zero_add];exact h1.cell (by rw[←List.getElem?_toArray]at hv;exact hv));have hpo:∀ k v,[Value.slice l.a l.xs.length l.cap,i6 (at0:Nat)][k]? = some v→w.cell? ⟨po,0+k,none⟩=some v:=fun k v hv=>(by rw[Nat.zero_add];exact h2.cell (by rw[←List.getElem?_toArray]at hv;exact hv))
 refine Cc [0] [(0,pt pr)] ?_
 refine A8 14 4 [0] [[o0],[o0,o0],[o0,o0,o0,(oa [.via 0 (pt po)])]] [Old w pr 0 (pt po)] [(8,pt po)] rfl ⟨Aw (hpr 0 _ rfl),Ae⟩ ?_
 refine BV 104 #[pt po] (some 9) (Aa at0) (fun w1 hw1=>rowat_calls w1 po l at0 (XV (hw1.at (i:=0) rfl) h2) hat hlen) (fun n2 (hn3:z≤n2) => ?_)
 refine Bv 3 0 [] [[o0]] [] [(2,Aa at0)] rfl Ae ?_
 refine AP [] [] (Aa at0) Ae ?_
 intro w4 hw4
 exact⟨rfl,Au hw4⟩
theorem fault_calls(w:World)(pr po:Nat)(l:Sl Int)(at0:Nat)(fl:Int)(h1:At w pr (.cells #[.pointer (some ⟨po,0,none⟩),.int .i64 fl] 151 (0,0)))(h2:At w po (.cells #[.slice l.a l.xs.length l.cap,.int .i64 (at0:Nat)] 118 (0,0)))(hat:at0≤l.xs.length)(hlen:l.xs.length≤16384):Calls Tryz.prog 123 #[.pointer (some ⟨pr,0,none⟩)] w fun e w'=>e = .returned (.int .i64 fl)∧BH (fun _=>False) w w':=by
 obtain⟨z,hz⟩:∃ z,z=w.heap.size:=⟨_,rfl⟩
 refine BA (args:=[pt pr]) 9 ⟨w,z,[(Ak w)]⟩ Tryz.func123 rfl (by kernel_rfl) (by kernel_rfl) (En hz) ?_
 have hpr:∀ k v,[pt po,i6 fl][k]? = some v→w.cell? ⟨pr,0+k,none⟩=some v:=fun k v hv=>(by rw[Nat.zero_add];exact h1.cell (by rw[←List.getElem?_toArray]at hv;exact hv))
 refine Cc [0] [(0,pt pr)] ?_
 refine A8 17 0 [0] [[o0],[o0,o0],[o0,o0,o0,(oa [.via 0 (i6 fl)]),o0]] [Old w pr 1 (i6 fl)] [(2,i6 fl)] rfl ⟨Aw (hpr 1 _ rfl),Ae⟩ ?_
 refine AP [] [] (i6 fl) Ae ?_
 intro w1 hw1
 exact⟨rfl,Au hw1⟩
section
variable (po:Nat)(l:Sl Int)(at0 pr:Nat)
abbrev TI:=bk po #[.slice l.a l.xs.length l.cap,Aa at0] 118
abbrev TZ:=bk pr #[pt po,i6 0] 151
abbrev Oo:=(0,pt pr)
end
theorem ZaX(w:World)(pr po:Nat)(l:Sl Int)(at0:Nat)(h1:At w pr (.cells #[.pointer (some ⟨po,0,none⟩),.int .i64 0] 151 (0,0)))(h2:At w po (.cells #[.slice l.a l.xs.length l.cap,.int .i64 (at0:Nat)] 118 (0,0)))(hl:FV Ew 1 (fun x=>x<w.heap.size∧¬ (x=pr∨x=po)) w l)(hne:pr≠po)(hB:Gj l.xs)(hlen:l.xs.length≤16384)(hat:at0≤l.xs.length)(k:Nat)(hk:1≤k∧k≤4):Calls Tryz.prog 124 #[.pointer (some ⟨pr,0,none⟩),.int .i64 (k:Int)] w fun e w'=>NumRaw w pr po l at0 k .u64 e w':=by
 obtain⟨z,hz⟩:∃ z,z=w.heap.size:=⟨_,rfl⟩
 refine BA (args:=[pt pr,Aa k]) 63 ⟨w,z,[(old (fun b=>b=pr∨b=po) w),(TZ po pr),(TI po l at0)]⟩ Tryz.func124 rfl (by kernel_rfl) (by kernel_rfl) (hz ▸ sat_two h1 h2 hne) ?_
 refine Cc [0,1] [(Oo pr),(1,Aa k)] ?_
 refine A8 15 1 [0] [[o0],[o0,o0,o0,o0,o0,o0,(a1 1),o0,o0],[o0]] [Qb pr] [(Oo pr),(1,Aa k),(16,pt pr)] rfl ⟨rfl,Ae⟩ ?_
 refine l_call [] [] 59 #[pt pr] (some 17) Ae ?_
 intro w1 hw1
 refine(VE w1 pr po l at0 0 (hw1.at (i:=1) rfl) (hw1.at (i:=2) rfl) (by omega) hlen).mono ?_
 rintro e w2 ⟨rfl,hkw2⟩
 have hnw2:z≤w2.heap.size:=AY hw1 hkw2
 refine⟨_,_,rfl,hw1.keeps hkw2, ?_⟩
 refine CZ [0,1,17] [(Oo pr),(1,Aa k),(17,i6 ((l.xs.length:Int) - (at0:Nat)))] ?_
 by_cases h3:((l.xs.length:Int) - (at0:Nat):Int)<(k:Int)
 ·refine EG 12 0 [1] [[o0,oT],[o0,o0,o0,(a1 1)],[o0]] [BT (((l.xs.length:Int) - (at0:Nat):Int)<(k:Int)),Qb pr] [(4,.int .u64 0)] ⟨w,w2.heap.size,[(old (fun b=>b=pr∨b=po) w),(bk pr #[pt po,i6 12] 151),(TI po l at0)]⟩ rfl ⟨bt,rfl,Ae⟩ ?_
  refine AP [] [] (.int .u64 0) Ae ?_
  intro w4 hw4
  exact⟨.inr ⟨by omega,rfl,hw4.at (i:=1) rfl,hw4.at (i:=2) rfl⟩,Au hw4⟩
 refine Bv 15 0 [0] [[o0,oF],[o0],[o0,(ov (i6 ((k:Int) - 1))),o0]] [BF (((l.xs.length:Int) - (at0:Nat):Int)<(k:Int)),Wr ((k:Int) - 1) ((k:Int) - 1)] [(Oo pr),(1,Aa k),(5,.int .u64 0),(6,i6 ((k:Int) - 1))] rfl ⟨bf,Dk,Ae⟩ ?_
 refine DI (fun m a w'=>∃ (n6:Nat) (j:Nat),m=k - j∧w2.heap.size≤n6∧(j≤k)∧St 63 [(Oo pr),(1,Aa k),(5,.int .u64 (hv l.xs at0 k j)),(6,i6 ((k:Int) - 1 - (j:Int)))] [] ⟨w,n6,[(old (fun b=>b=pr∨b=po) w),(TZ po pr),(TI po l at0)]⟩ a w') (k - 0) ?_ ?_
 ·intro a w' hs;exact⟨w2.heap.size,0,rfl,Nat.le_refl _,Nat.zero_le _,by(try dsimp only[TI,TZ,Oo]at hs ⊢);rw[show hv l.xs at0 k 0=0 from rfl,show(k:Int) - 1 - ((0:Nat):Int)=(k:Int) - 1 from by omega];exact hs⟩
 rintro m a w' ⟨n6,j,rfl,hn5,hj,hs⟩
 refine(?_:G Tryz.prog 63 [(Oo pr),(1,Aa k),(5,.int .u64 (hv l.xs at0 k j)),(6,i6 ((k:Int) - 1 - (j:Int)))] [] ⟨w,n6,[(old (fun b=>b=pr∨b=po) w),(TZ po pr),(TI po l at0)]⟩ _ _ _) a w' hs
 clear hs a w'
 have hvj:=WN hB at0 k j (by omega)
 refine Dl <| Dl ?_
 by_cases h7:((k:Int) - 1 - (j:Int):Int)<0
 ·refine q_c 18 0 [0] [[o0,oF],[o0,o0,o0,(a1 1),o0,o0,(a1 2),o0,(ov (i6 ((at0+k:Nat):Int))),o0,o0,(a1 2)],[o0,o0]] [BF (((k:Int) - 1 - (j:Int):Int)≥0),Qb pr,Qb po,Wr ((at0:Int)+(k:Int)) (((at0+k:Nat):Int)),Qb po] [(4,.int .u64 (hv l.xs at0 k j))] ⟨w,n6,[(old (fun b=>b=pr∨b=po) w),(TZ po pr),(bk po #[.slice l.a l.xs.length l.cap,i6 ((at0+k:Nat):Int)] 118)]⟩ rfl ⟨bf,rfl,rfl,Dk,rfl,Ae⟩ ?_
  refine AP [] [] (.int .u64 (hv l.xs at0 k j)) Ae ?_
  intro w8 hw8
  have hjk:j=k:=by omega
  exact⟨.inl ⟨by omega,by rw[hjk];rfl,hw8.at (i:=1) rfl,hw8.at (i:=2) rfl⟩,Au hw8⟩
 refine A8 8 0 [1] [[o0,oT]] [BT (((k:Int) - 1 - (j:Int):Int)≥0)] [(Oo pr),(1,Aa k),(5,.int .u64 (hv l.xs at0 k j)),(6,i6 ((k:Int) - 1 - (j:Int))),(26,.bool true)] rfl ⟨bt,Ae⟩ ?_
 obtain⟨b9,o10,ha11,hF13,hc12⟩:=((⟨hl,fun _ _=>trivial⟩:GU Ew 1 (fun _ _ _=>True) _ _ _)).1.all (show 0<l.xs.length by omega)
 replace ha11:l.a=some ⟨b9,o10,none⟩:=ha11
 have hc14:=hc12 (((at0:Int)+((k:Int) - 1 - (j:Int))).toNat) (show((at0:Int)+((k:Int) - 1 - (j:Int))).toNat<l.xs.length by omega)
 have he15:=((⟨hl,fun _ _=>trivial⟩:GU Ew 1 (fun _ _ _=>True) _ _ _)).2 (((at0:Int)+((k:Int) - 1 - (j:Int))).toNat) (show((at0:Int)+((k:Int) - 1 - (j:Int))).toNat<l.xs.length by omega)
 obtain⟨y16,hy16⟩:∃ y_,y_=gd l.xs (((at0:Int)+((k:Int) - 1 - (j:Int))).toNat):=⟨_,rfl⟩
 rw[←hy16]at he15 hc14
 have hyby16:=J7 hB ((at0:Int)+((k:Int) - 1 - (j:Int))).toNat;rw[←hy16]at hyby16
 refine DK 23 [0,1,2] [(old (fun b=>b=pr∨b=po) w),(TZ po pr),(TI po l at0)] rfl rfl ?_
 refine CP [(0,o0),(1,(ov (.int .u64 ((hv l.xs at0 k j)*256)))),(2,o0),(3,o0),(4,o0),(5,(a1 1)),(6,o0),(7,o0),(8,(J3 2 b9 o10 l)),(9,o0),(10,o0),(11,o0),(12,(a1 1)),(13,o0),(14,o0),(15,(a1 2)),(16,o0),(17,(ov (i6 ((at0:Int)+((k:Int) - 1 - (j:Int)))))),(18,(oi (((at0:Int)+((k:Int) - 1 - (j:Int))).toNat))),(19,(oa [.via 0 (.int .u8 y16)])),(20,(ov (.int .u64 y16))),(21,(ov (.int .u64 ((hv l.xs at0 k j)*256+y16)))),(22,o0)] [0,1,5,6] [Value.int .u64 (IntKind.u64.wrap ((hv l.xs at0 k j)*2 ^ 8))=Value.int .u64 ((hv l.xs at0 k j)*256),Qb pr,Qb po,IJ b9 o10 l,Qb pr,Qb po,Wr ((at0:Int)+((k:Int) - 1 - (j:Int))) ((at0:Int)+((k:Int) - 1 - (j:Int))),((at0:Int)+((k:Int) - 1 - (j:Int)):Int)=((((at0:Int)+((k:Int) - 1 - (j:Int))).toNat:Nat):Int),((at0:Int)+((k:Int) - 1 - (j:Int))).toNat<l.xs.length,Ec,∀ w',Ch.holds (old (fun b=>b=pr∨b=po) w) w'→w'.cell? ⟨b9,o10+(((at0:Int)+((k:Int) - 1 - (j:Int))).toNat),none⟩=some (.int .u8 y16),Value.int .u64 (IntKind.u64.wrap (y16))=Value.int .u64 (y16),Value.int .u64 (IntKind.u64.wrap ((BitVec.ofInt IntKind.u64.bits ((hv l.xs at0 k j)*256) ||| BitVec.ofInt IntKind.u64.bits y16).toNat))=Value.int .u64 ((hv l.xs at0 k j)*256+y16)] (Dy 23 0) [(Oo pr),(1,Aa k),(5,.int .u64 ((hv l.xs at0 k j)*256+y16)),(6,i6 ((k:Int) - 1 - (j:Int)))] ⟨congrArg (Value.int .u64) (Uk (by omega) (by omega) (by omega)),rfl,rfl,IK ha11,rfl,rfl,Dk,(by omega),(by omega),rfl,EP (F:=fun b=>b=pr∨b=po) hF13 (hc14 0 _ rfl),congrArg (Value.int .u64) (Uk rfl (by omega) (by omega)),congrArg (Value.int .u64) (or_is (by omega) (by omega) (by omega) (by omega)),Ae⟩ ?_
 refine CQ ?_
 refine Nl 4 0 [] [[o0,(ov (i6 (((k:Int) - 1 - (j:Int)) - 1))),o0]] [Wr (((k:Int) - 1 - (j:Int):Int) - 1) (((k:Int) - 1 - (j:Int)) - 1)] [(Oo pr),(1,Aa k),(5,.int .u64 ((hv l.xs at0 k j)*256+y16)),(6,i6 (((k:Int) - 1 - (j:Int)) - 1))] rfl ⟨Dk,Ae⟩ ?_
 refine CS (fun a w' hs=>⟨k - (j+1),by omega,n6,(j+1),rfl,by omega,by omega,by(try dsimp only[TI,TZ,Oo]at hs ⊢);rw[show hv l.xs at0 k (j+1)=hv l.xs at0 k j*256+gd l.xs ((at0:Int)+((k:Int) - 1 - (j:Int))).toNat from rfl,←hy16,show(k:Int) - 1 - ((j+1:Nat):Int)=(k:Int) - 1 - (j:Int) - 1 from by omega];exact hs⟩)
theorem Za5(w:World)(pr:Nat)(F:Nat→Prop)(b:List Int)(at0:Nat)(h:D5 w pr F b at0 0)(k:Nat)(hk:1≤k∧k≤4):Calls Tryz.prog 124 #[.pointer (some ⟨pr,0,none⟩),.int .i64 (k:Nat)] w fun e w'=>ZH w pr F b at0 k .u64 e w':=by
 have hR:=h
 obtain⟨po,l,rfl,h1,h2,h3,h4,h5,h6,h7,h8,h9,h10⟩:=h
 refine(ZaX w pr po l at0 h1 h2 (Jy (fun _ _ _ _ h=>h) (fun x hx=>⟨h10 x hx.1,fun h=>h.elim hx.2.1 hx.2.2⟩) h3) h4 h8 h9 h7 k hk).mono ?_
 rintro e w' ⟨⟨g1,g2,g3,g4⟩ | ⟨g1,g2,g3,g4⟩,g5⟩
 ·exact .inl ⟨g1,g2,WF hR g5 g3 g4 h4 h5 h6 h3 g1⟩
 exact .inr ⟨g1,g2,WF hR g5 g3 g4 h4 h5 h6 h3 h7⟩
def GH(b:List Int)(at' n:Nat):List Int:=(b.drop at').take n
theorem VA{b:List Int}{at' n:Nat}(h:at'+n≤b.length):(GH b at' n).length=n:=by unfold GH;rw[List.length_take,List.length_drop];omega
theorem Yi{b:List Int}(h:Gj b)(at' n:Nat):Gj (GH b at' n):=fun x hx=>h x (List.mem_of_mem_drop (List.mem_of_mem_take hx))
def TextPost(w:World)(pr:Nat)(F:Nat→Prop)(b:List Int)(at':Nat)(e:Ending)(w':World):Prop :=
 (at'+4≤b.length∧AB b at' 4≤255∧at'+4+(AB b at' 4).toNat≤b.length∧e = .returned (.string (strOf (GH b (at'+4) (AB b at' 4).toNat)))∧D5 w' pr F b (at'+4+(AB b at' 4).toNat) 0∧BH F w w') ∨
 ((at'+4≤b.length→AB b at' 4≤255→b.length<at'+4+(AB b at' 4).toNat)∧e = .returned (.string ⟨#[]⟩)∧(∃ fl,fl≠0 ∧ -100≤fl∧fl≤100∧D5 w' pr F b at' fl)∧BH F w w')
def TextRaw(w:World)(pr po:Nat)(l:Sl Int)(at':Nat)(e:Ending)(w':World):Prop :=
 ((at'+4≤l.xs.length∧AB l.xs at' 4≤255∧at'+4+(AB l.xs at' 4).toNat≤l.xs.length∧e = .returned (.string (strOf (GH l.xs (at'+4) (AB l.xs at' 4).toNat)))∧At w' pr (.cells #[.pointer (some ⟨po,0,none⟩),.int .i64 0] 151 (0,0))∧At w' po (.cells #[.slice l.a l.xs.length l.cap,.int .i64 ((at'+4+(AB l.xs at' 4).toNat:Nat):Int)] 118 (0,0))) ∨
 ((at'+4≤l.xs.length→AB l.xs at' 4≤255→l.xs.length<at'+4+(AB l.xs at' 4).toNat)∧e = .returned (.string ⟨#[]⟩)∧∃ fl:Int,fl≠0 ∧ -100≤fl∧fl≤100∧At w' pr (.cells #[.pointer (some ⟨po,0,none⟩),.int .i64 fl] 151 (0,0))∧At w' po (.cells #[.slice l.a l.xs.length l.cap,.int .i64 (at':Nat)] 118 (0,0))))∧BH (fun b=>b=pr∨b=po) w w'
section
variable (po:Nat)(l:Sl Int)(at0 pr:Nat)
abbrev qnvh_0:=bk po #[.slice l.a l.xs.length l.cap,Aa at0] 118
abbrev WE:=bk pr #[pt po,i6 0] 151
abbrev N9:=(0,pt pr)
end
theorem rtext_walk(w:World)(pr po:Nat)(l:Sl Int)(at0:Nat)(h1:At w pr (.cells #[.pointer (some ⟨po,0,none⟩),.int .i64 0] 151 (0,0)))(h2:At w po (.cells #[.slice l.a l.xs.length l.cap,.int .i64 (at0:Nat)] 118 (0,0)))(hl:FV Ew 1 (fun x=>x<w.heap.size∧¬ (x=pr∨x=po)) w l)(hne:pr≠po)(hB:Gj l.xs)(hlen:l.xs.length≤16384)(hat:at0≤l.xs.length):Calls Tryz.prog 130 #[.pointer (some ⟨pr,0,none⟩),.int .i64 255] w fun e w'=>TextRaw w pr po l at0 e w':=by
 obtain⟨z,hz⟩:∃ z,z=w.heap.size:=⟨_,rfl⟩
 refine BA (args:=[pt pr,i6 255]) 101 ⟨w,z,[(old (fun b=>b=pr∨b=po) w),(WE po pr),(qnvh_0 po l at0)]⟩ Tryz.func130 rfl (by kernel_rfl) (by kernel_rfl) (hz ▸ sat_two h1 h2 hne) ?_
 have hcap:l.xs.length≤l.cap:=hl.le
 refine Cc [0,1] [(N9 pr),(1,i6 255)] ?_
 refine A8 18 1 [0] [[o0],[o0,o0,o0,o0,o0,o0,(a1 1),o0,o0],[o0,o0,o0,(a1 1),o0,o0,(a1 2),o0],[o0]] [Qb pr,Qb pr,Qb po] [(N9 pr),(1,i6 255),(5,Aa at0),(24,pt pr)] rfl ⟨rfl,rfl,rfl,Ae⟩ ?_
 refine l_call [] [] 124 #[pt pr,i6 4] (some 25) Ae ?_
 intro w1 hw1
 refine(ZaX w1 pr po l at0 (hw1.at (i:=1) rfl) (hw1.at (i:=2) rfl) (Jy (fun x _ _ hx hv=>TG hv hx.2 _ (hw1.at (i:=0) rfl)) (fun x hx=>⟨Nat.lt_of_lt_of_le hx.1 (by rw[hw1.size];show w.heap.size≤z;omega),hx.2⟩) hl) hne hB hlen (by omega) 4 ⟨by omega,by omega⟩).mono ?_
 rintro e w2 ⟨⟨hqw2,rfl,hpw2,hrw2⟩ | ⟨hqw2,rfl,hpw2,hrw2⟩,hkw2⟩
 ·have hnw2:z≤w2.heap.size:=AY hw1 hkw2
  have hvbw2:=Eo hB at0;obtain⟨m,hm⟩:∃ m:Nat,AB l.xs at0 4=(m:Int):=⟨_,(Int.toNat_of_nonneg hvbw2.1).symm⟩;rw[hm]
  refine⟨_,_,rfl,Sat.pq2 hw1 [0] (i:=1) (j:=2) rfl rfl (by decide) rfl rfl rfl rfl hpw2 hrw2 hkw2, ?_⟩
  refine Bv 10 0 [0] [[o0],[o0,o0,o0,(a1 1),o0,o0]] [Qb pr] [(N9 pr),(1,i6 255),(5,Aa at0),(6,.int .u64 (m:Int)),(26,.bool false)] rfl ⟨rfl,Ae⟩ ?_
  by_cases h3:(255:Int)<(m:Int)
  ·refine q_c 23 0 [1,1] [[o0,o0,(ov (i6 255)),o0,oT,o0],[o0,o0,o0,(a1 1)],[o0,o0,o0,(a1 1),o0],[o0,o0,o0,(a1 1),o0,o0,o0,(a1 2)],[o0]] [i6 (if(0:Int) > 255 then(0:Int)else 255)=i6 (255),BT ((m:Int) > 255),Qb pr,Qb pr,Qb pr,Qb po] [(4,.string (⟨#[]⟩))] ⟨w,w2.heap.size,[(old (fun b=>b=pr∨b=po) w),(bk pr #[pt po,i6 14] 151),(qnvh_0 po l at0)]⟩ rfl ⟨rfl,bt,rfl,rfl,rfl,rfl,Ae⟩ ?_
   refine AP [] [] (.string (⟨#[]⟩)) Ae ?_
   intro w4 hw4
   exact⟨.inr ⟨by omega,rfl,14,by omega,by omega,by omega,hw4.at (i:=1) rfl,hw4.at (i:=2) rfl⟩,Au hw4⟩
  refine A8 6 2 [0] [[o0,o0,(ov (i6 255)),o0,oF,o0],[o0,o0]] [i6 (if(0:Int) > 255 then(0:Int)else 255)=i6 (255),BF ((m:Int) > 255)] [(N9 pr),(5,Aa at0),(6,.int .u64 (m:Int)),(42,.int .u64 (m:Int)),(43,pt pr)] rfl ⟨rfl,bf,Ae⟩ ?_
  refine l_call [] [] 59 #[pt pr] (some 44) Ae ?_
  intro w5 hw5
  refine(VE w5 pr po l (at0+4) 0 (hw5.at (i:=1) rfl) (hw5.at (i:=2) rfl) (by omega) hlen).mono ?_
  rintro e w6 ⟨rfl,hkw6⟩
  have hnw6:w2.heap.size≤w6.heap.size:=AY hw5 hkw6
  refine⟨_,_,rfl,hw5.keeps hkw6, ?_⟩
  refine CZ [0,5,6,42,44] [(N9 pr),(5,Aa at0),(6,.int .u64 (m:Int)),(42,.int .u64 (m:Int)),(44,i6 ((l.xs.length:Int) - (at0+4:Nat)))] ?_
  by_cases h7:((l.xs.length:Int) - (at0+4:Nat):Int)<(m:Int)
  ·refine EG 22 0 [1,1] [[(ov (.int .u64 ((l.xs.length:Int) - (at0+4:Nat)))),oT,o0],[o0,o0,o0,(a1 1)],[o0,o0,o0,(a1 1),o0],[o0,o0,o0,(a1 1),o0,o0,o0,(a1 2)],[o0]] [Value.int .u64 (IntKind.u64.wrap ((l.xs.length:Int) - (at0+4:Nat)))=Value.int .u64 ((l.xs.length:Int) - (at0+4:Nat)),BT ((m:Int) > ((l.xs.length:Int) - (at0+4:Nat))),Qb pr,Qb pr,Qb pr,Qb po] [(4,.string (⟨#[]⟩))] ⟨w,w6.heap.size,[(old (fun b=>b=pr∨b=po) w),(bk pr #[pt po,i6 12] 151),(qnvh_0 po l at0)]⟩ rfl ⟨congrArg (Value.int .u64) (Uk rfl (by omega) (by omega)),bt,rfl,rfl,rfl,rfl,Ae⟩ ?_
   refine AP [] [] (.string (⟨#[]⟩)) Ae ?_
   intro w8 hw8
   exact⟨.inr ⟨by omega,rfl,12,by omega,by omega,by omega,hw8.at (i:=1) rfl,hw8.at (i:=2) rfl⟩,Au hw8⟩
  refine Bv 15 0 [0,0] [[(ov (.int .u64 ((l.xs.length:Int) - (at0+4:Nat)))),oF,o0],[o0,o0,o0,(a1 1),o0]] [Value.int .u64 (IntKind.u64.wrap ((l.xs.length:Int) - (at0+4:Nat)))=Value.int .u64 ((l.xs.length:Int) - (at0+4:Nat)),BF ((m:Int) > ((l.xs.length:Int) - (at0+4:Nat))),Qb pr] [(N9 pr),(5,Aa at0),(6,.int .u64 (m:Int)),(54,.bool false)] rfl ⟨congrArg (Value.int .u64) (Uk rfl (by omega) (by omega)),bf,rfl,Ae⟩ ?_
  obtain⟨b9,o10,ha11,hF13,hc12⟩:=((⟨hl,fun _ _=>trivial⟩:GU Ew 1 (fun _ _ _=>True) _ _ _)).1.all (show 0<l.xs.length by omega)
  replace ha11:l.a=some ⟨b9,o10,none⟩:=ha11
  have hc14:=hc12 0 (show 0<l.xs.length by omega)
  have he15:=((⟨hl,fun _ _=>trivial⟩:GU Ew 1 (fun _ _ _=>True) _ _ _)).2 0 (show 0<l.xs.length by omega)
  obtain⟨y16,hy16⟩:∃ y_,y_=gd l.xs 0:=⟨_,rfl⟩
  rw[←hy16]at he15 hc14
  by_cases h17:(l.cap:Nat)=at0+4
  ·refine DK 27 [0,1,2] [(old (fun b=>b=pr∨b=po) w),(WE po pr),(bk po #[.slice l.a l.xs.length l.cap,i6 ((at0+4:Nat):Int)] 118)] rfl rfl ?_
   refine CP [(0,o0),(1,o0),(2,o0),(3,(a1 1)),(4,o0),(5,o0),(6,(J3 2 b9 o10 l)),(7,o0),(8,o0),(9,o0),(10,(a1 1)),(11,o0),(12,o0),(13,(a1 2)),(14,o0),(15,o0),(16,o0),(17,(a1 1)),(18,o0),(19,o0),(20,(a1 2)),(21,o0),(22,(ov (Aa m))),(23,(ov (i6 (((at0+4)+m:Nat):Int)))),(24,⟨.slc (at0+4) ((at0+4)+m) false,none⟩)] [0,6,86] [Qb pr,Qb po,IJ b9 o10 l,Qb pr,Qb po,Qb pr,Qb po,Wr ((m:Int)) ((m:Int)),Wr ((((at0+4:Nat):Int):Int)+(m:Int)) ((((at0+4)+m:Nat):Int)),(((at0+4:Nat):Int):Int)=((at0+4:Nat):Int),((((at0+4)+m:Nat):Int):Int)=(((at0+4)+m:Nat):Int),at0+4≤(at0+4)+m,(at0+4)+m≤l.cap,l.cap=at0+4∨(at0+4)=0] (Dy 25 2) [(N9 pr),(6,.int .u64 (m:Int)),(86,.slice (some ⟨b9,o10,none⟩) (((at0+4)+m) - (at0+4)) (l.cap - (at0+4)))] ⟨rfl,rfl,IK ha11,rfl,rfl,rfl,rfl,Dk rfl,Dk,rfl,rfl,(by omega),(by omega),.inl h17,Ae⟩ ?_
   refine AV 25 ?_
   refine wo_toStr 0 (GH l.xs (at0+4) (((at0+4)+m) - (at0+4))) (some ⟨b9,o10,none⟩) (((at0+4)+m) - (at0+4)) (l.cap - (at0+4)) (old (fun b=>b=pr∨b=po) w) (some 87) [0,1,2] (Yi hB _ _) (fun w' hw=>by rw[show GH l.xs (at0+4) (((at0+4)+m) - (at0+4))=[]from List.eq_nil_of_length_eq_zero (by rw[VA (by omega)];omega)];exact sl_none _ _) (.inr rfl) ?_ (VA (by omega))
   refine CB [0,6,87] [(N9 pr),(6,.int .u64 (m:Int)),(87,.string (strOf (GH l.xs (at0+4) (((at0+4)+m) - (at0+4)))))] ?_
   refine CP [(26,o0)] [0,6,7] [] (Dy 27 0) [(N9 pr),(6,.int .u64 (m:Int)),(7,.string (strOf (GH l.xs (at0+4) (((at0+4)+m) - (at0+4)))))] Ae ?_
   refine CQ ?_
   refine q_o 10 0 [] [[o0,o0,o0,(a1 1),o0,o0,(a1 2),o0,(ov (Aa m)),(ov (i6 (((at0+4)+m:Nat):Int))),o0,o0,(a1 2)],[o0,o0]] [Qb pr,Qb po,Wr ((m:Int)) ((m:Int)),Wr ((((at0+4:Nat):Int):Int)+(m:Int)) ((((at0+4)+m:Nat):Int)),Qb po] [(4,.string (strOf (GH l.xs (at0+4) (((at0+4)+m) - (at0+4)))))] ⟨w,w6.heap.size,[(old (fun b=>b=pr∨b=po) w),(WE po pr),(bk po #[.slice l.a l.xs.length l.cap,i6 (((at0+4)+m:Nat):Int)] 118)]⟩ rfl ⟨rfl,rfl,Dk rfl,Dk,rfl,Ae⟩ ?_
   refine AP [] [] (.string (strOf (GH l.xs (at0+4) (((at0+4)+m) - (at0+4))))) Ae ?_
   intro w18 hw18
   have hmn:(AB l.xs at0 4).toNat=m:=by omega
   refine⟨.inl ⟨by omega,by omega,by omega, ?_, ?_, ?_⟩,Au hw18⟩
   ·rw[hmn];congr 4;omega
   ·exact hw18.at (i:=1) rfl
   rw[hmn];exact hw18.at (i:=2) rfl
  refine DK 27 [0,1,2] [(old (fun b=>b=pr∨b=po) w),(WE po pr),(bk po #[.slice l.a l.xs.length l.cap,i6 ((at0+4:Nat):Int)] 118)] rfl rfl ?_
  refine CP [(0,o0),(1,o0),(2,o0),(3,(a1 1)),(4,o0),(5,o0),(6,(J3 2 b9 o10 l)),(7,o0),(8,o0),(9,o0),(10,(a1 1)),(11,o0),(12,o0),(13,(a1 2)),(14,o0),(15,o0),(16,o0),(17,(a1 1)),(18,o0),(19,o0),(20,(a1 2)),(21,o0),(22,(ov (Aa m))),(23,(ov (i6 (((at0+4)+m:Nat):Int)))),(24,⟨.slc (at0+4) ((at0+4)+m) true,none⟩)] [0,6,86] [Qb pr,Qb po,IJ b9 o10 l,Qb pr,Qb po,Qb pr,Qb po,Wr ((m:Int)) ((m:Int)),Wr ((((at0+4:Nat):Int):Int)+(m:Int)) ((((at0+4)+m:Nat):Int)),(((at0+4:Nat):Int):Int)=((at0+4:Nat):Int),((((at0+4)+m:Nat):Int):Int)=(((at0+4)+m:Nat):Int),at0+4≤(at0+4)+m,(at0+4)+m≤l.cap,l.cap≠at0+4,Ec] (Dy 25 2) [(N9 pr),(6,.int .u64 (m:Int)),(86,.slice (some ⟨b9,o10+(GI 1 (at0+4)),none⟩) (((at0+4)+m) - (at0+4)) (l.cap - (at0+4)))] ⟨rfl,rfl,IK ha11,rfl,rfl,rfl,rfl,Dk rfl,Dk,rfl,rfl,(by omega),(by omega),h17,rfl,Ae⟩ ?_
  refine AV 25 ?_
  refine wo_toStr 0 (GH l.xs (at0+4) (((at0+4)+m) - (at0+4))) (some ⟨b9,o10+(GI 1 (at0+4)),none⟩) (((at0+4)+m) - (at0+4)) (l.cap - (at0+4)) (old (fun b=>b=pr∨b=po) w) (some 87) [0,1,2] (Yi hB _ _) (fun w' hw=>sl_sub (Jy (fun x _ _ hx hv=>TG hv hx.2 w' hw) (fun _ _=>trivial) (show FV Ew 1 (fun x=>x<w.heap.size∧¬ (x=pr∨x=po)) w ⟨some ⟨b9,o10,none⟩,l.cap,l.xs⟩from(by have h0:=hl;rw[show l=⟨l.a,l.cap,l.xs⟩from rfl,ha11]at h0;exact h0))) (by omega) (by intro h;have h9:=congrArg List.length h;rw[List.length_nil]at h9;omega)) (.inr rfl) ?_ (VA (by omega))
  refine CB [0,6,87] [(N9 pr),(6,.int .u64 (m:Int)),(87,.string (strOf (GH l.xs (at0+4) (((at0+4)+m) - (at0+4)))))] ?_
  refine CP [(26,o0)] [0,6,7] [] (Dy 27 0) [(N9 pr),(6,.int .u64 (m:Int)),(7,.string (strOf (GH l.xs (at0+4) (((at0+4)+m) - (at0+4)))))] Ae ?_
  refine CQ ?_
  refine q_o 10 0 [] [[o0,o0,o0,(a1 1),o0,o0,(a1 2),o0,(ov (Aa m)),(ov (i6 (((at0+4)+m:Nat):Int))),o0,o0,(a1 2)],[o0,o0]] [Qb pr,Qb po,Wr ((m:Int)) ((m:Int)),Wr ((((at0+4:Nat):Int):Int)+(m:Int)) ((((at0+4)+m:Nat):Int)),Qb po] [(4,.string (strOf (GH l.xs (at0+4) (((at0+4)+m) - (at0+4)))))] ⟨w,w6.heap.size,[(old (fun b=>b=pr∨b=po) w),(WE po pr),(bk po #[.slice l.a l.xs.length l.cap,i6 (((at0+4)+m:Nat):Int)] 118)]⟩ rfl ⟨rfl,rfl,Dk rfl,Dk,rfl,Ae⟩ ?_
  refine AP [] [] (.string (strOf (GH l.xs (at0+4) (((at0+4)+m) - (at0+4))))) Ae ?_
  intro w19 hw19
  have hmn:(AB l.xs at0 4).toNat=m:=by omega
  refine⟨.inl ⟨by omega,by omega,by omega, ?_, ?_, ?_⟩,Au hw19⟩
  ·rw[hmn];congr 4;omega
  ·exact hw19.at (i:=1) rfl
  rw[hmn];exact hw19.at (i:=2) rfl
 have hnw2:z≤w2.heap.size:=AY hw1 hkw2
 refine⟨_,_,rfl,Sat.pq2 hw1 [0] (i:=1) (j:=2) rfl rfl (by decide) rfl rfl rfl rfl hpw2 hrw2 hkw2, ?_⟩
 refine Bv 27 0 [1,1] [[o0],[o0,o0,o0,(a1 1),o0,o0],[o0,o0,o0,(a1 1),o0],[o0,o0,o0,(a1 1),o0,o0,o0,(a1 2)],[o0]] [Qb pr,Qb pr,Qb pr,Qb po] [(4,.string (⟨#[]⟩))] rfl ⟨rfl,rfl,rfl,rfl,Ae⟩ ?_
 refine AP [] [] (.string (⟨#[]⟩)) Ae ?_
 intro w20 hw20
 exact⟨.inr ⟨by omega,rfl,12,by omega,by omega,by omega,hw20.at (i:=1) rfl,hw20.at (i:=2) rfl⟩,Au hw20⟩
def Ve(e:Int)(at':Nat):List PanicEntry:=[{ v:= .iface 111 (.agg #[.int .i64 e,.int .i64 (at':Nat)]),recovered:=false }]
def Ua(w:World)(pr:Nat)(F:Nat→Prop)(b:List Int)(ok:Prop)(v:Value)(at0 at':Nat)(e:Ending)(w':World):Prop :=
 (ok∧e = .returned v∧D5 w' pr F b at' 0∧BH F w w')∨(¬ ok∧e = .panicked (Ve 110 at0)∧BH F w w')
theorem rtext_calls(w:World)(pr:Nat)(F:Nat→Prop)(b:List Int)(at0:Nat)(h:D5 w pr F b at0 0):Calls Tryz.prog 130 #[.pointer (some ⟨pr,0,none⟩),.int .i64 255] w fun e w'=>TextPost w pr F b at0 e w':=by
 have hR:=h
 obtain⟨po,l,rfl,h1,h2,h3,h4,h5,h6,h7,h8,h9,h10⟩:=h
 refine(rtext_walk w pr po l at0 h1 h2 (Jy (fun _ _ _ _ h=>h) (fun x hx=>⟨h10 x hx.1,fun h=>h.elim hx.2.1 hx.2.2⟩) h3) h4 h8 h9 h7).mono ?_
 rintro e w' ⟨⟨g1,g2,g3,g4,g5,g6⟩ | ⟨g1,g2,fl,k1,k2,k3,g3,g4⟩,g7⟩
 ·exact .inl ⟨g1,g2,g3,g4,WF hR g7 g5 g6 h4 h5 h6 h3 g3⟩
 exact .inr ⟨g1,g2,⟨fl,k1,k2,k3,(WF hR g7 g3 g4 h4 h5 h6 h3 h7).1⟩,(WF hR g7 g3 g4 h4 h5 h6 h3 h7).2⟩
section
variable {A:AW}{w:World}{i pr:Nat}{F:Nat→Prop}{b:List Int}{at0:Nat}{fl:Int}
theorem UC(h:Sat A w)(hi:A.σ[i]? = some (CG pr F b at0 fl)):Calls Tryz.prog 57 #[.pointer (some ⟨pr,0,none⟩)] w fun e w'=>e = .returned (.int .i64 (at0:Nat))∧BH (fun _=>False) w w':=by
 obtain⟨po,l,rfl,h1,h2, -, -, -, -,h7, -,h9, -⟩:=h.at hi
 exact Df w pr po l at0 fl h1 h2 h7 h9
theorem left_sat(h:Sat A w)(hi:A.σ[i]? = some (CG pr F b at0 fl)):Calls Tryz.prog 59 #[.pointer (some ⟨pr,0,none⟩)] w fun e w'=>e = .returned (.int .i64 ((b.length:Int) - (at0:Nat)))∧BH (fun _=>False) w w':=by
 obtain⟨po,l,rfl,h1,h2, -, -, -, -,h7, -,h9, -⟩:=h.at hi
 exact VE w pr po l at0 fl h1 h2 h7 h9
theorem KU(h:Sat A w)(hi:A.σ[i]? = some (CG pr F b at0 fl)):Calls Tryz.prog 123 #[.pointer (some ⟨pr,0,none⟩)] w fun e w'=>e = .returned (.int .i64 fl)∧BH (fun _=>False) w w':=by
 obtain⟨po,l,rfl,h1,h2, -, -, -, -,h7, -,h9, -⟩:=h.at hi
 exact fault_calls w pr po l at0 fl h1 h2 h7 h9
theorem Rn{j bx:Nat}{t:TypeId}(h:Sat A w)(hi:A.σ[i]? = some (CG pr F b at0 fl))(hj:A.σ[j]? = some (.blk bx (.cells #[.pointer (some ⟨pr,0,none⟩)] t (0,0)) true))(hij:i≠j):(∀ k v,[Value.pointer (some ⟨pr,0,none⟩)][k]? = some v→w.cell? ⟨bx,0+k,none⟩=some v)∧bx<w.heap.size∧¬ F bx:=by
 have h1:At w bx (.cells #[.pointer (some ⟨pr,0,none⟩)] t (0,0)):=h.at hj
 refine⟨fun k v hv=>by rw[Nat.zero_add];exact h1.cell (by rw[←List.getElem?_toArray]at hv;exact hv),(Array.getElem?_eq_some_iff.1 h1).1,fun hF=>h.two hi hj hij rfl bx hF rfl⟩
end
theorem D8{A:AW}{w w':World}{i pr:Nat}{F:Nat→Prop}{b:List Int}{at0:Nat}{fl:Int}{kept:List Ch}(h:Sat A w)(is:List Nat)(hi:A.σ[i]? = some (CG pr F b at0 fl))(hnd:nodupB is=true)(hp:picks is A.σ=some kept)(hni:is.contains i=false)(hk:BH F w w'):Sat { A with n:=w'.heap.size,σ:=kept } w':=by
 have hpk:picks [i] A.σ=some [CG pr F b at0 fl]:=by simp[picks,hi]
 have hS:=h.turn is [i] (new:=[]) hnd hp hpk (by
  rw[List.all_eq_true]
  intro q hq
  simp only[List.contains_cons,List.contains_nil,Bool.or_false,Bool.not_eq_true',beq_eq_false_iff_ne]
  intro e;subst e
  rw[List.contains_eq_mem]at hni
  simp[hq]at hni) (fun d hd=>by simp only[List.mem_singleton]at hd;subst hd;rfl) (w':=w') (hk.mono (fun b _ hb=>⟨_,List.mem_singleton_self _,hb⟩)) (by simp) (by simp)
 rw[List.append_nil]at hS
 exact hS
theorem YJ(w:World)(pr:Nat)(F:Nat→Prop)(b:List Int)(at0:Nat)(hr:D5 w pr F b at0 0):Calls Tryz.prog 97 #[.pointer (some ⟨pr,0,none⟩)] w fun e w'=>ZH w pr F b at0 4 .u32 e w':=by
 obtain⟨z,hz⟩:∃ z,z=w.heap.size:=⟨_,rfl⟩
 refine BA (args:=[pt pr]) 6 ⟨w,z,[(old F w),(CG pr F b at0 0)]⟩ Tryz.func97 rfl (by kernel_rfl) (by kernel_rfl) (hz ▸ H8 hr) ?_
 have hB:=hr.Ou;have hlen:=hr.len;have hat:=hr.le
 refine Cc [0] [(0,pt pr)] ?_
 refine A8 6 1 [] [[o0],[o0]] [] [(3,pt pr)] rfl Ae ?_
 refine l_call [] [] 124 #[pt pr,i6 4] (some 4) Ae ?_
 intro w1 hw1
 refine(Za5 w1 pr F b at0 (hw1.at (i:=1) rfl) 4 ⟨by omega,by omega⟩).mono ?_
 rintro e w2 (⟨hqw2,rfl,hRw2,hkw2⟩ | ⟨hqw2,rfl,hRw2,hkw2⟩)
 ·have hvbw2:=Eo hB at0
  obtain⟨hnw2,hSw2⟩:=DJ hw1 (i:=1) rfl hRw2 hkw2
  have hnw2':z≤w2.heap.size:=hnw2
  refine⟨_,_,rfl,hSw2, ?_⟩
  refine Bv 3 0 [] [[(ov (.int .u32 (AB b at0 4))),o0]] [Value.int .u32 (IntKind.u32.wrap ((AB b at0 4)))=Value.int .u32 ((AB b at0 4))] [(2,.int .u32 (AB b at0 4))] rfl ⟨congrArg (Value.int .u32) (Ub rfl (by omega) (by omega)),Ae⟩ ?_
  refine AP [] [] (.int .u32 (AB b at0 4)) Ae ?_
  intro w3 hw3
  exact .inl ⟨by omega,rfl,hw3.at (i:=1) rfl,Au hw3⟩
 obtain⟨hnw2,hSw2⟩:=DJ hw1 (i:=1) rfl hRw2 hkw2
 have hnw2':z≤w2.heap.size:=hnw2
 refine⟨_,_,rfl,hSw2, ?_⟩
 refine Bv 3 0 [] [[o0,o0]] [] [(2,.int .u32 0)] rfl Ae ?_
 refine AP [] [] (.int .u32 0) Ae ?_
 intro w4 hw4
 exact .inr ⟨by omega,rfl,hw4.at (i:=1) rfl,Au hw4⟩
theorem Za4(w:World)(pr:Nat)(F:Nat→Prop)(b:List Int)(at0:Nat)(hr:D5 w pr F b at0 0):Calls Tryz.prog 142 #[.pointer (some ⟨pr,0,none⟩)] w fun e w'=>ZH w pr F b at0 1 .u8 e w':=by
 obtain⟨z,hz⟩:∃ z,z=w.heap.size:=⟨_,rfl⟩
 refine BA (args:=[pt pr]) 6 ⟨w,z,[(old F w),(CG pr F b at0 0)]⟩ Tryz.func142 rfl (by kernel_rfl) (by kernel_rfl) (hz ▸ H8 hr) ?_
 have hB:=hr.Ou;have hlen:=hr.len;have hat:=hr.le
 refine Cc [0] [(0,pt pr)] ?_
 refine A8 6 1 [] [[o0],[o0]] [] [(3,pt pr)] rfl Ae ?_
 refine l_call [] [] 124 #[pt pr,i6 1] (some 4) Ae ?_
 intro w1 hw1
 refine(Za5 w1 pr F b at0 (hw1.at (i:=1) rfl) 1 ⟨by omega,by omega⟩).mono ?_
 rintro e w2 (⟨hqw2,rfl,hRw2,hkw2⟩ | ⟨hqw2,rfl,hRw2,hkw2⟩)
 ·have hvbw2:=WN hB at0 1 1 (by omega);have hvew2:AB b at0 1=hv b at0 1 1:=rfl
  obtain⟨hnw2,hSw2⟩:=DJ hw1 (i:=1) rfl hRw2 hkw2
  have hnw2':z≤w2.heap.size:=hnw2
  refine⟨_,_,rfl,hSw2, ?_⟩
  refine Bv 3 0 [] [[(ov (.int .u8 (AB b at0 1))),o0]] [Value.int .u8 (IntKind.u8.wrap ((AB b at0 1)))=Value.int .u8 ((AB b at0 1))] [(2,.int .u8 (AB b at0 1))] rfl ⟨congrArg (Value.int .u8) (U1 rfl (by omega) (by omega)),Ae⟩ ?_
  refine AP [] [] (.int .u8 (AB b at0 1)) Ae ?_
  intro w3 hw3
  exact .inl ⟨by omega,rfl,hw3.at (i:=1) rfl,Au hw3⟩
 obtain⟨hnw2,hSw2⟩:=DJ hw1 (i:=1) rfl hRw2 hkw2
 have hnw2':z≤w2.heap.size:=hnw2
 refine⟨_,_,rfl,hSw2, ?_⟩
 refine Bv 3 0 [] [[o0,o0]] [] [(2,.int .u8 0)] rfl Ae ?_
 refine AP [] [] (.int .u8 0) Ae ?_
 intro w4 hw4
 exact .inr ⟨by omega,rfl,hw4.at (i:=1) rfl,Au hw4⟩
theorem it_num(w:World)(pr:Nat)(F:Nat→Prop)(b:List Int)(at0:Nat)(hr:D5 w pr F b at0 0)(bx:Nat)(hbx:∀ k v,[Value.pointer (some ⟨pr,0,none⟩)][k]? = some v→w.cell? ⟨bx,0+k,none⟩=some v)(hbF:bx<w.heap.size∧¬ F bx):Calls Tryz.prog 95 #[.agg #[.pointer (some ⟨pr,0,none⟩)],.func (.func 105) #[] #[.pointer (some ⟨bx,0,none⟩)]] w fun e w'=>Ua w pr F b (at0+4≤b.length) (.int .i64 (AB b at0 4)) at0 (at0+4) e w':=by
 obtain⟨z,hz⟩:∃ z,z=w.heap.size:=⟨_,rfl⟩
 refine BA (args:=[.agg #[pt pr],.func (.func 105) #[] #[pt bx]]) 28 ⟨w,z,[(old F w),(CG pr F b at0 0)]⟩ Tryz.func95 rfl (by kernel_rfl) (by kernel_rfl) (hz ▸ H8 hr) ?_
 have hB:=hr.Ou;have hlen:=hr.len;have hat:=hr.le
 refine Cc [0,1] [(0,.agg #[pt pr]),(1,.func (.func 105) #[] #[pt bx])] ?_
 refine q_c 6 2 [] [[o0,o0],[o0,(a1 2)]] [Qb z] [(1,.func (.func 105) #[] #[pt bx]),(2,pt z),(9,pt pr)] ⟨w,z+1,[(old F w),(CG pr F b at0 0),(bk z #[pt pr] 115)]⟩ rfl ⟨rfl,Ae⟩ ?_
 refine l_call [] [] 57 #[pt pr] (some 10) Ae ?_
 intro w1 hw1
 refine(UC hw1 (i:=1) rfl).mono ?_
 rintro e w2 ⟨rfl,hkw2⟩
 have hnw2:z+1≤w2.heap.size:=AY hw1 hkw2
 refine⟨_,_,rfl,hw1.keeps hkw2, ?_⟩
 refine Bv 4 1 [] [[o0],[o0]] [] [(2,pt z),(5,Aa at0),(12,.func (.func 105) #[] #[pt bx])] rfl Ae ?_
 refine l_call [] [] 105 #[pt bx] (some 13) Ae ?_
 intro w3 hw3
 refine BA (args:=[pt bx]) 7 ⟨w,w2.heap.size,[(old F w),(CG pr F b at0 0),(bk z #[pt pr] 115)]⟩ Tryz.func105 rfl (by kernel_rfl) (by kernel_rfl) hw3 ?_
 refine A8 6 2 [] [[o0,o0],[o0,(oa [.via 0 (pt pr)])]] [∀ w',Ch.holds (old F w) w'→w'.cell? ⟨bx,0,none⟩=some (pt pr)] [(4,pt pr)] rfl ⟨EP (F:=F) hbF (hbx 0 _ rfl),Ae⟩ ?_
 refine l_call [] [] 97 #[pt pr] (some 5) Ae ?_
 intro w4 hw4
 refine(YJ w4 pr F b at0 (hw4.at (i:=1) rfl)).mono ?_
 rintro e w5 (⟨hqw5,rfl,hRw5,hkw5⟩ | ⟨hqw5,rfl,hRw5,hkw5⟩)
 ·have hvbw5:=Eo hB at0
  obtain⟨hnw5,hSw5⟩:=DJ hw4 (i:=1) rfl hRw5 hkw5
  have hnw5':w2.heap.size≤w5.heap.size:=hnw5
  refine⟨_,_,rfl,hSw5, ?_⟩
  refine Bv 3 0 [] [[(ov (i6 (AB b at0 4))),o0,o0]] [Wr ((AB b at0 4)) ((AB b at0 4))] [(1,i6 (AB b at0 4)),(2,.bool true)] rfl ⟨Dk rfl,Ae⟩ ?_
  refine AP [] [] (.tuple #[i6 (AB b at0 4),.bool true]) Ae ?_
  intro w6 hw6
  refine⟨_,_,rfl,hw6, ?_⟩
  refine Bv 5 5 [] [[o0,o0,o0,o0,o0],[o0,o0,o0,o0,(a1 2)]] [Qb z] [(5,Aa at0),(6,i6 (AB b at0 4)),(18,.bool false),(20,pt pr)] rfl ⟨rfl,Ae⟩ ?_
  refine l_call [] [] 123 #[pt pr] (some 21) Ae ?_
  intro w7 hw7
  refine(KU hw7 (i:=1) rfl).mono ?_
  rintro e w8 ⟨rfl,hkw8⟩
  have hnw8:w5.heap.size≤w8.heap.size:=AY hw7 hkw8
  refine⟨_,_,rfl,hw7.keeps hkw8, ?_⟩
  refine Bv 10 0 [0] [[o0,o0],[o0,o0]] [] [(4,i6 (AB b at0 4))] rfl Ae ?_
  refine AP [] [] (i6 (AB b at0 4)) Ae ?_
  intro w9 hw9
  exact .inl ⟨by omega,rfl,hw9.at (i:=1) rfl,Au hw9⟩
 obtain⟨hnw5,hSw5⟩:=DJ hw4 (i:=1) rfl hRw5 hkw5
 have hnw5':w2.heap.size≤w5.heap.size:=hnw5
 refine⟨_,_,rfl,hSw5, ?_⟩
 refine Bv 3 0 [] [[o0,o0,o0]] [] [(1,i6 0),(2,.bool true)] rfl Ae ?_
 refine AP [] [] (.tuple #[i6 0,.bool true]) Ae ?_
 intro w10 hw10
 refine⟨_,_,rfl,hw10, ?_⟩
 refine Bv 5 5 [] [[o0,o0,o0,o0,o0],[o0,o0,o0,o0,(a1 2)]] [Qb z] [(5,Aa at0),(6,i6 0),(18,.bool false),(20,pt pr)] rfl ⟨rfl,Ae⟩ ?_
 refine l_call [] [] 123 #[pt pr] (some 21) Ae ?_
 intro w11 hw11
 refine(KU hw11 (i:=1) rfl).mono ?_
 rintro e w12 ⟨rfl,hkw12⟩
 have hnw12:w5.heap.size≤w12.heap.size:=AY hw11 hkw12
 refine⟨_,_,rfl,hw11.keeps hkw12, ?_⟩
 refine Bv 4 3 [1] [[o0,o0],[o0,o0,o0]] [] [(6,i6 0),(26,.iface 111 (.agg #[i6 110,Aa at0]))] rfl Ae ?_
 refine I7 (.iface 111 (.agg #[i6 110,Aa at0])) ?_
 refine BM ?_
 intro w13 hw13
 exact .inr ⟨by omega,rfl,Au hw13⟩
theorem it_byte(w:World)(pr:Nat)(F:Nat→Prop)(b:List Int)(at0:Nat)(hr:D5 w pr F b at0 0)(bx:Nat)(hbx:∀ k v,[Value.pointer (some ⟨pr,0,none⟩)][k]? = some v→w.cell? ⟨bx,0+k,none⟩=some v)(hbF:bx<w.heap.size∧¬ F bx):Calls Tryz.prog 95 #[.agg #[.pointer (some ⟨pr,0,none⟩)],.func (.func 141) #[] #[.pointer (some ⟨bx,0,none⟩)]] w fun e w'=>Ua w pr F b (at0+1≤b.length) (.int .i64 (gd b at0)) at0 (at0+1) e w':=by
 obtain⟨z,hz⟩:∃ z,z=w.heap.size:=⟨_,rfl⟩
 refine BA (args:=[.agg #[pt pr],.func (.func 141) #[] #[pt bx]]) 28 ⟨w,z,[(old F w),(CG pr F b at0 0)]⟩ Tryz.func95 rfl (by kernel_rfl) (by kernel_rfl) (hz ▸ H8 hr) ?_
 have hB:=hr.Ou;have hlen:=hr.len;have hat:=hr.le
 refine Cc [0,1] [(0,.agg #[pt pr]),(1,.func (.func 141) #[] #[pt bx])] ?_
 refine q_c 6 2 [] [[o0,o0],[o0,(a1 2)]] [Qb z] [(1,.func (.func 141) #[] #[pt bx]),(2,pt z),(9,pt pr)] ⟨w,z+1,[(old F w),(CG pr F b at0 0),(bk z #[pt pr] 115)]⟩ rfl ⟨rfl,Ae⟩ ?_
 refine l_call [] [] 57 #[pt pr] (some 10) Ae ?_
 intro w1 hw1
 refine(UC hw1 (i:=1) rfl).mono ?_
 rintro e w2 ⟨rfl,hkw2⟩
 have hnw2:z+1≤w2.heap.size:=AY hw1 hkw2
 refine⟨_,_,rfl,hw1.keeps hkw2, ?_⟩
 refine Bv 4 1 [] [[o0],[o0]] [] [(2,pt z),(5,Aa at0),(12,.func (.func 141) #[] #[pt bx])] rfl Ae ?_
 refine l_call [] [] 141 #[pt bx] (some 13) Ae ?_
 intro w3 hw3
 refine BA (args:=[pt bx]) 7 ⟨w,w2.heap.size,[(old F w),(CG pr F b at0 0),(bk z #[pt pr] 115)]⟩ Tryz.func141 rfl (by kernel_rfl) (by kernel_rfl) hw3 ?_
 refine A8 6 2 [] [[o0,o0],[o0,(oa [.via 0 (pt pr)])]] [∀ w',Ch.holds (old F w) w'→w'.cell? ⟨bx,0,none⟩=some (pt pr)] [(4,pt pr)] rfl ⟨EP (F:=F) hbF (hbx 0 _ rfl),Ae⟩ ?_
 refine l_call [] [] 142 #[pt pr] (some 5) Ae ?_
 intro w4 hw4
 refine(Za4 w4 pr F b at0 (hw4.at (i:=1) rfl)).mono ?_
 rintro e w5 (⟨hqw5,rfl,hRw5,hkw5⟩ | ⟨hqw5,rfl,hRw5,hkw5⟩)
 ·have hvbw5:=WN hB at0 1 1 (by omega);have hvew5:AB b at0 1=hv b at0 1 1:=rfl
  obtain⟨hnw5,hSw5⟩:=DJ hw4 (i:=1) rfl hRw5 hkw5
  have hnw5':w2.heap.size≤w5.heap.size:=hnw5
  refine⟨_,_,rfl,hSw5, ?_⟩
  refine Bv 3 0 [] [[(ov (i6 (AB b at0 1))),o0,o0]] [Wr ((AB b at0 1)) ((AB b at0 1))] [(1,i6 (AB b at0 1)),(2,.bool true)] rfl ⟨Dk rfl,Ae⟩ ?_
  refine AP [] [] (.tuple #[i6 (AB b at0 1),.bool true]) Ae ?_
  intro w6 hw6
  refine⟨_,_,rfl,hw6, ?_⟩
  refine Bv 5 5 [] [[o0,o0,o0,o0,o0],[o0,o0,o0,o0,(a1 2)]] [Qb z] [(5,Aa at0),(6,i6 (AB b at0 1)),(18,.bool false),(20,pt pr)] rfl ⟨rfl,Ae⟩ ?_
  refine l_call [] [] 123 #[pt pr] (some 21) Ae ?_
  intro w7 hw7
  refine(KU hw7 (i:=1) rfl).mono ?_
  rintro e w8 ⟨rfl,hkw8⟩
  have hnw8:w5.heap.size≤w8.heap.size:=AY hw7 hkw8
  refine⟨_,_,rfl,hw7.keeps hkw8, ?_⟩
  refine Bv 10 0 [0] [[o0,o0],[o0,o0]] [] [(4,i6 (AB b at0 1))] rfl Ae ?_
  refine AP [] [] (i6 (AB b at0 1)) Ae ?_
  intro w9 hw9
  exact .inl ⟨by omega,by rw[Tt],hw9.at (i:=1) rfl,Au hw9⟩
 obtain⟨hnw5,hSw5⟩:=DJ hw4 (i:=1) rfl hRw5 hkw5
 have hnw5':w2.heap.size≤w5.heap.size:=hnw5
 refine⟨_,_,rfl,hSw5, ?_⟩
 refine Bv 3 0 [] [[o0,o0,o0]] [] [(1,i6 0),(2,.bool true)] rfl Ae ?_
 refine AP [] [] (.tuple #[i6 0,.bool true]) Ae ?_
 intro w10 hw10
 refine⟨_,_,rfl,hw10, ?_⟩
 refine Bv 5 5 [] [[o0,o0,o0,o0,o0],[o0,o0,o0,o0,(a1 2)]] [Qb z] [(5,Aa at0),(6,i6 0),(18,.bool false),(20,pt pr)] rfl ⟨rfl,Ae⟩ ?_
 refine l_call [] [] 123 #[pt pr] (some 21) Ae ?_
 intro w11 hw11
 refine(KU hw11 (i:=1) rfl).mono ?_
 rintro e w12 ⟨rfl,hkw12⟩
 have hnw12:w5.heap.size≤w12.heap.size:=AY hw11 hkw12
 refine⟨_,_,rfl,hw11.keeps hkw12, ?_⟩
 refine Bv 4 3 [1] [[o0,o0],[o0,o0,o0]] [] [(6,i6 0),(26,.iface 111 (.agg #[i6 110,Aa at0]))] rfl Ae ?_
 refine I7 (.iface 111 (.agg #[i6 110,Aa at0])) ?_
 refine BM ?_
 intro w13 hw13
 exact .inr ⟨by omega,rfl,Au hw13⟩
theorem it_mark(w:World)(pr:Nat)(F:Nat→Prop)(b:List Int)(at0:Nat)(hr:D5 w pr F b at0 0)(bx:Nat)(hbx:∀ k v,[Value.pointer (some ⟨pr,0,none⟩)][k]? = some v→w.cell? ⟨bx,0+k,none⟩=some v)(hbF:bx<w.heap.size∧¬ F bx):Calls Tryz.prog 95 #[.agg #[.pointer (some ⟨pr,0,none⟩)],.func (.func 96) #[] #[.pointer (some ⟨bx,0,none⟩)]] w fun e w'=>Ua w pr F b (at0+4≤b.length∧AB b at0 4=826493762) (.int .i64 0) at0 (at0+4) e w':=by
 obtain⟨z,hz⟩:∃ z,z=w.heap.size:=⟨_,rfl⟩
 refine BA (args:=[.agg #[pt pr],.func (.func 96) #[] #[pt bx]]) 28 ⟨w,z,[(old F w),(CG pr F b at0 0)]⟩ Tryz.func95 rfl (by kernel_rfl) (by kernel_rfl) (hz ▸ H8 hr) ?_
 have hB:=hr.Ou;have hlen:=hr.len;have hat:=hr.le
 refine Cc [0,1] [(0,.agg #[pt pr]),(1,.func (.func 96) #[] #[pt bx])] ?_
 refine q_c 6 2 [] [[o0,o0],[o0,(a1 2)]] [Qb z] [(1,.func (.func 96) #[] #[pt bx]),(2,pt z),(9,pt pr)] ⟨w,z+1,[(old F w),(CG pr F b at0 0),(bk z #[pt pr] 115)]⟩ rfl ⟨rfl,Ae⟩ ?_
 refine l_call [] [] 57 #[pt pr] (some 10) Ae ?_
 intro w1 hw1
 refine(UC hw1 (i:=1) rfl).mono ?_
 rintro e w2 ⟨rfl,hkw2⟩
 have hnw2:z+1≤w2.heap.size:=AY hw1 hkw2
 refine⟨_,_,rfl,hw1.keeps hkw2, ?_⟩
 refine Bv 4 1 [] [[o0],[o0]] [] [(2,pt z),(5,Aa at0),(12,.func (.func 96) #[] #[pt bx])] rfl Ae ?_
 refine l_call [] [] 96 #[pt bx] (some 13) Ae ?_
 intro w3 hw3
 refine BA (args:=[pt bx]) 7 ⟨w,w2.heap.size,[(old F w),(CG pr F b at0 0),(bk z #[pt pr] 115)]⟩ Tryz.func96 rfl (by kernel_rfl) (by kernel_rfl) hw3 ?_
 refine A8 6 2 [] [[o0,o0],[o0,(oa [.via 0 (pt pr)])]] [∀ w',Ch.holds (old F w) w'→w'.cell? ⟨bx,0,none⟩=some (pt pr)] [(4,pt pr)] rfl ⟨EP (F:=F) hbF (hbx 0 _ rfl),Ae⟩ ?_
 refine l_call [] [] 97 #[pt pr] (some 5) Ae ?_
 intro w4 hw4
 refine(YJ w4 pr F b at0 (hw4.at (i:=1) rfl)).mono ?_
 rintro e w5 (⟨hqw5,rfl,hRw5,hkw5⟩ | ⟨hqw5,rfl,hRw5,hkw5⟩)
 ·have hvbw5:=Eo hB at0
  obtain⟨hnw5,hSw5⟩:=DJ hw4 (i:=1) rfl hRw5 hkw5
  have hnw5':w2.heap.size≤w5.heap.size:=hnw5
  refine⟨_,_,rfl,hSw5, ?_⟩
  refine CZ [5] [(5,.int .u32 (AB b at0 4))] ?_
  by_cases h6:((AB b at0 4):Int)=826493762
  ·refine Bv 3 0 [] [[oT,o0,o0]] [ET (AB b at0 4) 826493762] [(1,i6 0),(2,.bool true)] rfl ⟨et,Ae⟩ ?_
   refine AP [] [] (.tuple #[i6 0,.bool true]) Ae ?_
   intro w7 hw7
   refine⟨_,_,rfl,hw7, ?_⟩
   refine Bv 5 5 [] [[o0,o0,o0,o0,o0],[o0,o0,o0,o0,(a1 2)]] [Qb z] [(5,Aa at0),(6,i6 0),(18,.bool false),(20,pt pr)] rfl ⟨rfl,Ae⟩ ?_
   refine l_call [] [] 123 #[pt pr] (some 21) Ae ?_
   intro w8 hw8
   refine(KU hw8 (i:=1) rfl).mono ?_
   rintro e w9 ⟨rfl,hkw9⟩
   have hnw9:w5.heap.size≤w9.heap.size:=AY hw8 hkw9
   refine⟨_,_,rfl,hw8.keeps hkw9, ?_⟩
   refine Bv 10 0 [0] [[o0,o0],[o0,o0]] [] [(4,i6 0)] rfl Ae ?_
   refine AP [] [] (i6 0) Ae ?_
   intro w10 hw10
   exact .inl ⟨by omega,rfl,hw10.at (i:=1) rfl,Au hw10⟩
  refine Bv 3 0 [] [[oF,o0,o0]] [EF (AB b at0 4) 826493762] [(1,i6 0),(2,.bool false)] rfl ⟨ef,Ae⟩ ?_
  refine AP [] [] (.tuple #[i6 0,.bool false]) Ae ?_
  intro w11 hw11
  refine⟨_,_,rfl,hw11, ?_⟩
  refine Bv 9 3 [1] [[o0,o0,o0,o0,o0],[o0,o0,o0,o0],[o0,o0,o0]] [] [(6,i6 0),(26,.iface 111 (.agg #[i6 110,Aa at0]))] rfl Ae ?_
  refine I7 (.iface 111 (.agg #[i6 110,Aa at0])) ?_
  refine BM ?_
  intro w12 hw12
  exact .inr ⟨by omega,rfl,Au hw12⟩
 obtain⟨hnw5,hSw5⟩:=DJ hw4 (i:=1) rfl hRw5 hkw5
 have hnw5':w2.heap.size≤w5.heap.size:=hnw5
 refine⟨_,_,rfl,hSw5, ?_⟩
 refine Bv 3 0 [] [[o0,o0,o0]] [] [(1,i6 0),(2,.bool false)] rfl Ae ?_
 refine AP [] [] (.tuple #[i6 0,.bool false]) Ae ?_
 intro w13 hw13
 refine⟨_,_,rfl,hw13, ?_⟩
 refine Bv 9 3 [1] [[o0,o0,o0,o0,o0],[o0,o0,o0,o0],[o0,o0,o0]] [] [(6,i6 0),(26,.iface 111 (.agg #[i6 110,Aa at0]))] rfl Ae ?_
 refine I7 (.iface 111 (.agg #[i6 110,Aa at0])) ?_
 refine BM ?_
 intro w14 hw14
 exact .inr ⟨by omega,rfl,Au hw14⟩
theorem it_src(w:World)(pr:Nat)(F:Nat→Prop)(b:List Int)(at0:Nat)(hr:D5 w pr F b at0 0)(bx:Nat)(hbx:∀ k v,[Value.pointer (some ⟨pr,0,none⟩)][k]? = some v→w.cell? ⟨bx,0+k,none⟩=some v)(hbF:bx<w.heap.size∧¬ F bx):Calls Tryz.prog 143 #[.agg #[.pointer (some ⟨pr,0,none⟩)],.func (.func 144) #[] #[.pointer (some ⟨bx,0,none⟩)]] w fun e w'=>Ua w pr F b (at0+1≤b.length∧gd b at0≤1) (.bool (decide (gd b at0=1))) at0 (at0+1) e w':=by
 obtain⟨z,hz⟩:∃ z,z=w.heap.size:=⟨_,rfl⟩
 refine BA (args:=[.agg #[pt pr],.func (.func 144) #[] #[pt bx]]) 28 ⟨w,z,[(old F w),(CG pr F b at0 0)]⟩ Tryz.func143 rfl (by kernel_rfl) (by kernel_rfl) (hz ▸ H8 hr) ?_
 have hB:=hr.Ou;have hlen:=hr.len;have hat:=hr.le
 refine Cc [0,1] [(0,.agg #[pt pr]),(1,.func (.func 144) #[] #[pt bx])] ?_
 refine q_c 6 2 [] [[o0,o0],[o0,(a1 2)]] [Qb z] [(1,.func (.func 144) #[] #[pt bx]),(2,pt z),(9,pt pr)] ⟨w,z+1,[(old F w),(CG pr F b at0 0),(bk z #[pt pr] 115)]⟩ rfl ⟨rfl,Ae⟩ ?_
 refine l_call [] [] 57 #[pt pr] (some 10) Ae ?_
 intro w1 hw1
 refine(UC hw1 (i:=1) rfl).mono ?_
 rintro e w2 ⟨rfl,hkw2⟩
 have hnw2:z+1≤w2.heap.size:=AY hw1 hkw2
 refine⟨_,_,rfl,hw1.keeps hkw2, ?_⟩
 refine Bv 4 1 [] [[o0],[o0]] [] [(2,pt z),(5,Aa at0),(12,.func (.func 144) #[] #[pt bx])] rfl Ae ?_
 refine l_call [] [] 144 #[pt bx] (some 13) Ae ?_
 intro w3 hw3
 refine BA (args:=[pt bx]) 11 ⟨w,w2.heap.size,[(old F w),(CG pr F b at0 0),(bk z #[pt pr] 115)]⟩ Tryz.func144 rfl (by kernel_rfl) (by kernel_rfl) hw3 ?_
 refine A8 6 2 [] [[o0,o0],[o0,(oa [.via 0 (pt pr)])]] [∀ w',Ch.holds (old F w) w'→w'.cell? ⟨bx,0,none⟩=some (pt pr)] [(5,pt pr)] rfl ⟨EP (F:=F) hbF (hbx 0 _ rfl),Ae⟩ ?_
 refine l_call [] [] 142 #[pt pr] (some 6) Ae ?_
 intro w4 hw4
 refine(Za4 w4 pr F b at0 (hw4.at (i:=1) rfl)).mono ?_
 rintro e w5 (⟨hqw5,rfl,hRw5,hkw5⟩ | ⟨hqw5,rfl,hRw5,hkw5⟩)
 ·have hvbw5:=WN hB at0 1 1 (by omega);have hvew5:AB b at0 1=hv b at0 1 1:=rfl
  obtain⟨hnw5,hSw5⟩:=DJ hw4 (i:=1) rfl hRw5 hkw5
  have hnw5':w2.heap.size≤w5.heap.size:=hnw5
  refine⟨_,_,rfl,hSw5, ?_⟩
  refine Bv 3 0 [] [[o0]] [] [(3,.int .u8 (AB b at0 1))] rfl Ae ?_
  by_cases h6:((AB b at0 1):Int)=1
  ·by_cases h7:(1:Int)<(AB b at0 1)
   ·refine A8 4 0 [] [[o0,oT,o0,oF,o0,o0]] [ET (AB b at0 1) 1,BF (((AB b at0 1):Int)≤1)] [(1,.bool true),(2,.bool false)] rfl ⟨et,bf,Ae⟩ ?_
    refine AP [] [] (.tuple #[.bool true,.bool false]) Ae ?_
    intro w8 hw8
    refine⟨_,_,rfl,hw8, ?_⟩
    refine Bv 9 3 [1] [[o0,o0,o0,o0,o0],[o0,o0,o0,o0],[o0,o0,o0]] [] [(6,.bool true),(26,.iface 111 (.agg #[i6 110,Aa at0]))] rfl Ae ?_
    refine I7 (.iface 111 (.agg #[i6 110,Aa at0])) ?_
    refine BM ?_
    intro w9 hw9
    exact .inr ⟨by have hl1:=Tt (b:=b) at0;omega,rfl,Au hw9⟩
   refine A8 4 0 [] [[o0,oT,o0,oT,o0,o0]] [ET (AB b at0 1) 1,BT (((AB b at0 1):Int)≤1)] [(1,.bool true),(2,.bool true)] rfl ⟨et,bt,Ae⟩ ?_
   refine AP [] [] (.tuple #[.bool true,.bool true]) Ae ?_
   intro w10 hw10
   refine⟨_,_,rfl,hw10, ?_⟩
   refine Bv 5 5 [] [[o0,o0,o0,o0,o0],[o0,o0,o0,o0,(a1 2)]] [Qb z] [(5,Aa at0),(6,.bool true),(18,.bool false),(20,pt pr)] rfl ⟨rfl,Ae⟩ ?_
   refine l_call [] [] 123 #[pt pr] (some 21) Ae ?_
   intro w11 hw11
   refine(KU hw11 (i:=1) rfl).mono ?_
   rintro e w12 ⟨rfl,hkw12⟩
   have hnw12:w5.heap.size≤w12.heap.size:=AY hw11 hkw12
   refine⟨_,_,rfl,hw11.keeps hkw12, ?_⟩
   refine Bv 10 0 [0] [[o0,o0],[o0,o0]] [] [(4,.bool true)] rfl Ae ?_
   refine AP [] [] (.bool true) Ae ?_
   intro w13 hw13
   have hl1:=Tt (b:=b) at0
   exact .inl ⟨by omega,congrArg (fun x=>Ending.returned (Value.bool x)) (Eq.symm (decide_eq_true (by omega))),hw13.at (i:=1) rfl,Au hw13⟩
  by_cases h14:(1:Int)<(AB b at0 1)
  ·refine A8 4 0 [] [[o0,oF,o0,oF,o0,o0]] [EF (AB b at0 1) 1,BF (((AB b at0 1):Int)≤1)] [(1,.bool false),(2,.bool false)] rfl ⟨ef,bf,Ae⟩ ?_
   refine AP [] [] (.tuple #[.bool false,.bool false]) Ae ?_
   intro w15 hw15
   refine⟨_,_,rfl,hw15, ?_⟩
   refine Bv 9 3 [1] [[o0,o0,o0,o0,o0],[o0,o0,o0,o0],[o0,o0,o0]] [] [(6,.bool false),(26,.iface 111 (.agg #[i6 110,Aa at0]))] rfl Ae ?_
   refine I7 (.iface 111 (.agg #[i6 110,Aa at0])) ?_
   refine BM ?_
   intro w16 hw16
   exact .inr ⟨by have hl1:=Tt (b:=b) at0;omega,rfl,Au hw16⟩
  refine A8 4 0 [] [[o0,oF,o0,oT,o0,o0]] [EF (AB b at0 1) 1,BT (((AB b at0 1):Int)≤1)] [(1,.bool false),(2,.bool true)] rfl ⟨ef,bt,Ae⟩ ?_
  refine AP [] [] (.tuple #[.bool false,.bool true]) Ae ?_
  intro w17 hw17
  refine⟨_,_,rfl,hw17, ?_⟩
  refine Bv 5 5 [] [[o0,o0,o0,o0,o0],[o0,o0,o0,o0,(a1 2)]] [Qb z] [(5,Aa at0),(6,.bool false),(18,.bool false),(20,pt pr)] rfl ⟨rfl,Ae⟩ ?_
  refine l_call [] [] 123 #[pt pr] (some 21) Ae ?_
  intro w18 hw18
  refine(KU hw18 (i:=1) rfl).mono ?_
  rintro e w19 ⟨rfl,hkw19⟩
  have hnw19:w5.heap.size≤w19.heap.size:=AY hw18 hkw19
  refine⟨_,_,rfl,hw18.keeps hkw19, ?_⟩
  refine Bv 10 0 [0] [[o0,o0],[o0,o0]] [] [(4,.bool false)] rfl Ae ?_
  refine AP [] [] (.bool false) Ae ?_
  intro w20 hw20
  have hl1:=Tt (b:=b) at0
  exact .inl ⟨by omega,congrArg (fun x=>Ending.returned (Value.bool x)) (Eq.symm (decide_eq_false (by omega))),hw20.at (i:=1) rfl,Au hw20⟩
 obtain⟨hnw5,hSw5⟩:=DJ hw4 (i:=1) rfl hRw5 hkw5
 have hnw5':w2.heap.size≤w5.heap.size:=hnw5
 refine⟨_,_,rfl,hSw5, ?_⟩
 refine Bv 7 0 [] [[o0],[o0,o0,o0,o0,o0,o0]] [] [(1,.bool false),(2,.bool true)] rfl Ae ?_
 refine AP [] [] (.tuple #[.bool false,.bool true]) Ae ?_
 intro w21 hw21
 refine⟨_,_,rfl,hw21, ?_⟩
 refine Bv 5 5 [] [[o0,o0,o0,o0,o0],[o0,o0,o0,o0,(a1 2)]] [Qb z] [(5,Aa at0),(6,.bool false),(18,.bool false),(20,pt pr)] rfl ⟨rfl,Ae⟩ ?_
 refine l_call [] [] 123 #[pt pr] (some 21) Ae ?_
 intro w22 hw22
 refine(KU hw22 (i:=1) rfl).mono ?_
 rintro e w23 ⟨rfl,hkw23⟩
 have hnw23:w5.heap.size≤w23.heap.size:=AY hw22 hkw23
 refine⟨_,_,rfl,hw22.keeps hkw23, ?_⟩
 refine Bv 4 3 [1] [[o0,o0],[o0,o0,o0]] [] [(6,.bool false),(26,.iface 111 (.agg #[i6 110,Aa at0]))] rfl Ae ?_
 refine I7 (.iface 111 (.agg #[i6 110,Aa at0])) ?_
 refine BM ?_
 intro w24 hw24
 exact .inr ⟨by have hl1:=Tt (b:=b) at0;omega,rfl,Au hw24⟩
theorem it_text(w:World)(pr:Nat)(F:Nat→Prop)(b:List Int)(at0:Nat)(hr:D5 w pr F b at0 0)(bx:Nat)(hbx:∀ k v,[Value.pointer (some ⟨pr,0,none⟩)][k]? = some v→w.cell? ⟨bx,0+k,none⟩=some v)(hbF:bx<w.heap.size∧¬ F bx):Calls Tryz.prog 128 #[.agg #[.pointer (some ⟨pr,0,none⟩)],.func (.func 129) #[] #[.pointer (some ⟨bx,0,none⟩)]] w fun e w'=>Ua w pr F b (at0+4≤b.length∧AB b at0 4≤255∧at0+4+(AB b at0 4).toNat≤b.length) (.string (strOf (GH b (at0+4) (AB b at0 4).toNat))) at0 (at0+4+(AB b at0 4).toNat) e w':=by
 obtain⟨z,hz⟩:∃ z,z=w.heap.size:=⟨_,rfl⟩
 refine BA (args:=[.agg #[pt pr],.func (.func 129) #[] #[pt bx]]) 28 ⟨w,z,[(old F w),(CG pr F b at0 0)]⟩ Tryz.func128 rfl (by kernel_rfl) (by kernel_rfl) (hz ▸ H8 hr) ?_
 have hB:=hr.Ou;have hlen:=hr.len;have hat:=hr.le
 refine Cc [0,1] [(0,.agg #[pt pr]),(1,.func (.func 129) #[] #[pt bx])] ?_
 refine q_c 6 2 [] [[o0,o0],[o0,(a1 2)]] [Qb z] [(1,.func (.func 129) #[] #[pt bx]),(2,pt z),(9,pt pr)] ⟨w,z+1,[(old F w),(CG pr F b at0 0),(bk z #[pt pr] 115)]⟩ rfl ⟨rfl,Ae⟩ ?_
 refine l_call [] [] 57 #[pt pr] (some 10) Ae ?_
 intro w1 hw1
 refine(UC hw1 (i:=1) rfl).mono ?_
 rintro e w2 ⟨rfl,hkw2⟩
 have hnw2:z+1≤w2.heap.size:=AY hw1 hkw2
 refine⟨_,_,rfl,hw1.keeps hkw2, ?_⟩
 refine Bv 4 1 [] [[o0],[o0]] [] [(2,pt z),(5,Aa at0),(12,.func (.func 129) #[] #[pt bx])] rfl Ae ?_
 refine l_call [] [] 129 #[pt bx] (some 13) Ae ?_
 intro w3 hw3
 refine BA (args:=[pt bx]) 6 ⟨w,w2.heap.size,[(old F w),(CG pr F b at0 0),(bk z #[pt pr] 115)]⟩ Tryz.func129 rfl (by kernel_rfl) (by kernel_rfl) hw3 ?_
 refine A8 6 2 [] [[o0,o0],[o0,(oa [.via 0 (pt pr)])]] [∀ w',Ch.holds (old F w) w'→w'.cell? ⟨bx,0,none⟩=some (pt pr)] [(4,pt pr)] rfl ⟨EP (F:=F) hbF (hbx 0 _ rfl),Ae⟩ ?_
 refine l_call [] [] 130 #[pt pr,i6 255] (some 5) Ae ?_
 intro w4 hw4
 refine(rtext_calls w4 pr F b at0 (hw4.at (i:=1) rfl)).mono ?_
 rintro e w5 (⟨hqw5,hqw5b,hqw5c,rfl,hRw5,hkw5⟩ | ⟨hqw5,rfl,⟨flw5,hfw5,hfw5b,hfw5c,hRw5⟩,hkw5⟩)
 ·obtain⟨hnw5,hSw5⟩:=DJ hw4 (i:=1) rfl hRw5 hkw5
  have hnw5':w2.heap.size≤w5.heap.size:=hnw5
  refine⟨_,_,rfl,hSw5, ?_⟩
  refine Bv 3 0 [] [[o0,o0]] [] [(1,.string (strOf (GH b (at0+4) (AB b at0 4).toNat))),(2,.bool true)] rfl Ae ?_
  refine AP [] [] (.tuple #[.string (strOf (GH b (at0+4) (AB b at0 4).toNat)),.bool true]) Ae ?_
  intro w6 hw6
  refine⟨_,_,rfl,hw6, ?_⟩
  refine Bv 5 5 [] [[o0,o0,o0,o0,o0],[o0,o0,o0,o0,(a1 2)]] [Qb z] [(5,Aa at0),(6,.string (strOf (GH b (at0+4) (AB b at0 4).toNat))),(18,.bool false),(20,pt pr)] rfl ⟨rfl,Ae⟩ ?_
  refine l_call [] [] 123 #[pt pr] (some 21) Ae ?_
  intro w7 hw7
  refine(KU hw7 (i:=1) rfl).mono ?_
  rintro e w8 ⟨rfl,hkw8⟩
  have hnw8:w5.heap.size≤w8.heap.size:=AY hw7 hkw8
  refine⟨_,_,rfl,hw7.keeps hkw8, ?_⟩
  refine Bv 10 0 [0] [[o0,o0],[o0,o0]] [] [(4,.string (strOf (GH b (at0+4) (AB b at0 4).toNat)))] rfl Ae ?_
  refine AP [] [] (.string (strOf (GH b (at0+4) (AB b at0 4).toNat))) Ae ?_
  intro w9 hw9
  exact .inl ⟨by omega,rfl,hw9.at (i:=1) rfl,Au hw9⟩
 obtain⟨hnw5,hSw5⟩:=DJ hw4 (i:=1) rfl hRw5 hkw5
 have hnw5':w2.heap.size≤w5.heap.size:=hnw5
 refine⟨_,_,rfl,hSw5, ?_⟩
 refine Bv 3 0 [] [[o0,o0]] [] [(1,.string (⟨#[]⟩)),(2,.bool true)] rfl Ae ?_
 refine AP [] [] (.tuple #[.string (⟨#[]⟩),.bool true]) Ae ?_
 intro w10 hw10
 refine⟨_,_,rfl,hw10, ?_⟩
 refine Bv 5 5 [] [[o0,o0,o0,o0,o0],[o0,o0,o0,o0,(a1 2)]] [Qb z] [(5,Aa at0),(6,.string (⟨#[]⟩)),(18,.bool false),(20,pt pr)] rfl ⟨rfl,Ae⟩ ?_
 refine l_call [] [] 123 #[pt pr] (some 21) Ae ?_
 intro w11 hw11
 refine(KU hw11 (i:=1) rfl).mono ?_
 rintro e w12 ⟨rfl,hkw12⟩
 have hnw12:w5.heap.size≤w12.heap.size:=AY hw11 hkw12
 refine⟨_,_,rfl,hw11.keeps hkw12, ?_⟩
 refine Bv 4 3 [1] [[oT,o0],[o0,o0,o0]] [NT flw5 0] [(6,.string (⟨#[]⟩)),(26,.iface 111 (.agg #[i6 110,Aa at0]))] rfl ⟨nt,Ae⟩ ?_
 refine I7 (.iface 111 (.agg #[i6 110,Aa at0])) ?_
 refine BM ?_
 intro w13 hw13
 exact .inr ⟨by omega,rfl,Au hw13⟩
def numAt(b:List Int)(a:Nat):PR Int:=if a+4≤b.length then .ok (AB b a 4) (a+4)else .no a
def byteAt(b:List Int)(a:Nat):PR Int:=if a+1≤b.length then .ok (gd b a) (a+1)else .no a
def Uu(b:List Int)(a:Nat):PR Bool:=if a+1≤b.length∧gd b a≤1 then .ok (decide (gd b a=1)) (a+1)else .no a
def RS(b:List Int)(a:Nat):PR ByteArray:=if a+4≤b.length∧AB b a 4≤255∧a+4+(AB b a 4).toNat≤b.length then .ok (strOf (GH b (a+4) (AB b a 4).toNat)) (a+4+(AB b a 4).toNat)else .no a
theorem BP{b:List Int}{a:Nat}(h:a+4≤b.length):numAt b a = .ok (AB b a 4) (a+4):=if_pos h
theorem ES{b:List Int}{a:Nat}(h:¬ a+4≤b.length):numAt b a = .no a:=if_neg h
theorem Ws{b:List Int}{a:Nat}(h:a+1≤b.length):byteAt b a = .ok (gd b a) (a+1):=if_pos h
theorem byteAt_no{b:List Int}{a:Nat}(h:¬ a+1≤b.length):byteAt b a = .no a:=if_neg h
theorem Yk{b:List Int}{a:Nat}(h:a+1≤b.length∧gd b a≤1):Uu b a = .ok (decide (gd b a=1)) (a+1):=if_pos h
theorem srcAt_no{b:List Int}{a:Nat}(h:¬ (a+1≤b.length∧gd b a≤1)):Uu b a = .no a:=if_neg h
theorem LY{b:List Int}{a:Nat}(h:a+4≤b.length∧AB b a 4≤255∧a+4+(AB b a 4).toNat≤b.length):RS b a = .ok (strOf (GH b (a+4) (AB b a 4).toNat)) (a+4+(AB b a 4).toNat):=if_pos h
theorem textAt_no{b:List Int}{a:Nat}(h:¬ (a+4≤b.length∧AB b a 4≤255∧a+4+(AB b a 4).toNat≤b.length)):RS b a = .no a:=if_neg h
def MI(b:List Int)(a:Nat):PR A7:=(numAt b a).bind fun p a=>(numAt b a).bind fun u a=>(numAt b a).bind fun s a=> .ok ⟨p - 1,u,s⟩ a
def Oc(b:List Int)(a:Nat):PR AX:=(numAt b a).bind fun p a=>(numAt b a).bind fun k a=>(numAt b a).bind fun f a=>(numAt b a).bind fun r a=> .ok ⟨p,k,f,r⟩ a
def Nz(b:List Int)(a:Nat):PR BR:=(numAt b a).bind fun c a=>(Uu b a).bind fun s a=> .ok ⟨c,s⟩ a
def Gv(b:List Int)(a:Nat):PR AQ:=(numAt b a).bind fun k a=>(numAt b a).bind fun w a=>(numAt b a).bind fun d a=> .ok ⟨k,w,d⟩ a
def ZaC{α:Type}(w:World)(pr:Nat)(F:Nat→Prop)(b:List Int)(r:PR α)(val:α→Value)(e:Ending)(w':World):Prop :=
 (∃ x a,r = .ok x a∧e = .returned (val x)∧D5 w' pr F b a 0∧BH F w w')∨(∃ p,r = .no p∧e = .panicked (Ve 110 p)∧BH F w w')
theorem Hl{α β:Type}{r:PR α}{f:α→Nat→PR β}{y:β}{a2:Nat}(h:r.bind f = .ok y a2):∃ x a,r = .ok x a∧f x a = .ok y a2:=by
 cases r with
 | ok x a=>exact⟨x,a,rfl,h⟩
 | no a=>cases h
theorem KI{b:List Int}{a a2:Nat}{n:Int}(h:numAt b a = .ok n a2):a+4≤b.length∧n=AB b a 4∧a2=a+4:=by
 unfold numAt at h
 split at h
 ·rename_i h1;cases h;exact⟨h1,rfl,rfl⟩
 cases h
theorem Za0{b:List Int}{a a2:Nat}{n:Int}(h:byteAt b a = .ok n a2):a+1≤b.length∧n=gd b a∧a2=a+1:=by
 unfold byteAt at h
 split at h
 ·rename_i h1;cases h;exact⟨h1,rfl,rfl⟩
 cases h
theorem srcAt_of{b:List Int}{a a2:Nat}{n:Bool}(h:Uu b a = .ok n a2):(a+1≤b.length∧gd b a≤1)∧n=decide (gd b a=1)∧a2=a+1:=by
 unfold Uu at h
 split at h
 ·rename_i h1;cases h;exact⟨h1,rfl,rfl⟩
 cases h
theorem textAt_of{b:List Int}{a a2:Nat}{n:ByteArray}(h:RS b a = .ok n a2):(a+4≤b.length∧AB b a 4≤255∧a+4+(AB b a 4).toNat≤b.length)∧n=strOf (GH b (a+4) (AB b a 4).toNat)∧a2=a+4+(AB b a 4).toNat:=by
 unfold RS at h
 split at h
 ·rename_i h1;cases h;exact⟨h1,rfl,rfl⟩
 cases h
theorem winAt_rng{b:List Int}(hB:Gj b){a a2:Nat}{x:A7}(h:MI b a = .ok x a2):0 - 1≤x.Partition∧x.Partition≤4294967294∧0≤x.Bq∧x.Bq≤4294967295∧0≤x.AC∧x.AC≤4294967295:=by
 unfold MI at h
 obtain⟨n0,a0,e0,h⟩:=Hl h
 obtain⟨-,g0, -⟩:=KI e0
 have b0:=Eo hB a
 obtain⟨n1,a1,e1,h⟩:=Hl h
 obtain⟨-,g1, -⟩:=KI e1
 have b1:=Eo hB a0
 obtain⟨n2,a2,e2,h⟩:=Hl h
 obtain⟨-,g2, -⟩:=KI e2
 have b2:=Eo hB a1
 cases h
 simp only
 omega
theorem regAt_rng{b:List Int}(hB:Gj b){a a2:Nat}{x:AX}(h:Oc b a = .ok x a2):0≤x.CO∧x.CO≤4294967295∧0≤x.BO∧x.BO≤4294967295∧0≤x.Frame∧x.Frame≤4294967295∧0≤x.EM∧x.EM≤4294967295:=by
 unfold Oc at h
 obtain⟨n0,a0,e0,h⟩:=Hl h
 obtain⟨-,g0, -⟩:=KI e0
 have b0:=Eo hB a
 obtain⟨n1,a1,e1,h⟩:=Hl h
 obtain⟨-,g1, -⟩:=KI e1
 have b1:=Eo hB a0
 obtain⟨n2,a2,e2,h⟩:=Hl h
 obtain⟨-,g2, -⟩:=KI e2
 have b2:=Eo hB a1
 obtain⟨n3,a3,e3,h⟩:=Hl h
 obtain⟨-,g3, -⟩:=KI e3
 have b3:=Eo hB a2
 cases h
 simp only
 omega
theorem portAt_rng{b:List Int}(hB:Gj b){a a2:Nat}{x:BR}(h:Nz b a = .ok x a2):0≤x.Channel∧x.Channel≤4294967295:=by
 unfold Nz at h
 obtain⟨n0,a0,e0,h⟩:=Hl h
 obtain⟨-,g0, -⟩:=KI e0
 have b0:=Eo hB a
 obtain⟨s0,c0,f0,h⟩:=Hl h
 cases h
 simp only
 omega
theorem chanAt_rng{b:List Int}(hB:Gj b){a a2:Nat}{x:AQ}(h:Gv b a = .ok x a2):0≤x.Kind∧x.Kind≤4294967295∧0≤x.Words∧x.Words≤4294967295∧0≤x.Dj∧x.Dj≤4294967295:=by
 unfold Gv at h
 obtain⟨n0,a0,e0,h⟩:=Hl h
 obtain⟨-,g0, -⟩:=KI e0
 have b0:=Eo hB a
 obtain⟨n1,a1,e1,h⟩:=Hl h
 obtain⟨-,g1, -⟩:=KI e1
 have b1:=Eo hB a0
 obtain⟨n2,a2,e2,h⟩:=Hl h
 obtain⟨-,g2, -⟩:=KI e2
 have b2:=Eo hB a1
 cases h
 simp only
 omega
theorem EN(w:World)(pr:Nat)(F:Nat→Prop)(b:List Int)(at0:Nat)(hr:D5 w pr F b at0 0):Calls Tryz.prog 58 #[.agg #[.pointer (some ⟨pr,0,none⟩)]] w fun e w'=>Ua w pr F b (at0+4≤b.length) (.int .i64 (AB b at0 4)) at0 (at0+4) e w':=by
 obtain⟨z,hz⟩:∃ z,z=w.heap.size:=⟨_,rfl⟩
 refine BA (args:=[.agg #[pt pr]]) 6 ⟨w,z,[(old F w),(CG pr F b at0 0)]⟩ Tryz.func58 rfl (by kernel_rfl) (by kernel_rfl) (hz ▸ H8 hr) ?_
 have hB:=hr.Ou;have hlen:=hr.len;have hat:=hr.le
 refine Cc [0] [(0,.agg #[pt pr])] ?_
 refine q_c 6 2 [] [[o0,o0],[(a1 2),o0]] [Qb z] [(3,.agg #[pt pr]),(4,.func (.func 105) #[] #[pt z])] ⟨w,z+1,[(old F w),(CG pr F b at0 0),(bk z #[pt pr] 115)]⟩ rfl ⟨rfl,Ae⟩ ?_
 refine DT [] [] 95 #[.agg #[pt pr],.func (.func 105) #[] #[pt z]] (some 5) Ae ?_
 intro w1 hw1
 refine(it_num w1 pr F b at0 (hw1.at (i:=1) rfl) z (Rn hw1 (i:=1) (j:=2) rfl rfl (by decide)).1 (Rn hw1 (i:=1) (j:=2) rfl rfl (by decide)).2).mono ?_
 rintro e w2 (⟨hqw2,rfl,hRw2,hkw2⟩ | ⟨hqw2,rfl,hkw2⟩)
 ·have hvbw2:=Eo hB at0
  obtain⟨hnw2,hSw2⟩:=DJ hw1 (i:=1) rfl hRw2 hkw2
  have hnw2':z+1≤w2.heap.size:=hnw2
  refine .inl ⟨_,_,rfl,hSw2, ?_⟩
  refine Bv 3 0 [] [[o0]] [] [(2,i6 (AB b at0 4))] rfl Ae ?_
  refine AP [] [] (i6 (AB b at0 4)) Ae ?_
  intro w3 hw3
  exact .inl ⟨by omega,rfl,hw3.at (i:=1) rfl,Au hw3⟩
 have hnw2:z+1≤w2.heap.size:=AY hw1 hkw2
 have hSw2:=D8 hw1 [0,2] (i:=1) rfl rfl rfl rfl hkw2
 refine .inr ⟨_,_,rfl,hSw2, ?_⟩
 refine BM ?_
 intro w4 hw4
 exact .inr ⟨by omega,rfl,Au hw4⟩
theorem Vp(w:World)(pr:Nat)(F:Nat→Prop)(b:List Int)(at0:Nat)(hr:D5 w pr F b at0 0):Calls Tryz.prog 125 #[.agg #[.pointer (some ⟨pr,0,none⟩)]] w fun e w'=>Ua w pr F b (at0+1≤b.length) (.int .i64 (gd b at0)) at0 (at0+1) e w':=by
 obtain⟨z,hz⟩:∃ z,z=w.heap.size:=⟨_,rfl⟩
 refine BA (args:=[.agg #[pt pr]]) 6 ⟨w,z,[(old F w),(CG pr F b at0 0)]⟩ Tryz.func125 rfl (by kernel_rfl) (by kernel_rfl) (hz ▸ H8 hr) ?_
 have hB:=hr.Ou;have hlen:=hr.len;have hat:=hr.le
 refine Cc [0] [(0,.agg #[pt pr])] ?_
 refine q_c 6 2 [] [[o0,o0],[(a1 2),o0]] [Qb z] [(3,.agg #[pt pr]),(4,.func (.func 141) #[] #[pt z])] ⟨w,z+1,[(old F w),(CG pr F b at0 0),(bk z #[pt pr] 115)]⟩ rfl ⟨rfl,Ae⟩ ?_
 refine DT [] [] 95 #[.agg #[pt pr],.func (.func 141) #[] #[pt z]] (some 5) Ae ?_
 intro w1 hw1
 refine(it_byte w1 pr F b at0 (hw1.at (i:=1) rfl) z (Rn hw1 (i:=1) (j:=2) rfl rfl (by decide)).1 (Rn hw1 (i:=1) (j:=2) rfl rfl (by decide)).2).mono ?_
 rintro e w2 (⟨hqw2,rfl,hRw2,hkw2⟩ | ⟨hqw2,rfl,hkw2⟩)
 ·have hvbw2:=J7 hB at0
  obtain⟨hnw2,hSw2⟩:=DJ hw1 (i:=1) rfl hRw2 hkw2
  have hnw2':z+1≤w2.heap.size:=hnw2
  refine .inl ⟨_,_,rfl,hSw2, ?_⟩
  refine Bv 3 0 [] [[o0]] [] [(2,i6 (gd b at0))] rfl Ae ?_
  refine AP [] [] (i6 (gd b at0)) Ae ?_
  intro w3 hw3
  exact .inl ⟨by omega,rfl,hw3.at (i:=1) rfl,Au hw3⟩
 have hnw2:z+1≤w2.heap.size:=AY hw1 hkw2
 have hSw2:=D8 hw1 [0,2] (i:=1) rfl rfl rfl rfl hkw2
 refine .inr ⟨_,_,rfl,hSw2, ?_⟩
 refine BM ?_
 intro w4 hw4
 exact .inr ⟨by omega,rfl,Au hw4⟩
section
variable (z:Nat)(b:List Int)(at0 pr:Nat)
abbrev qfwa_0:=bk (z+1) #[i6 ((AB b at0 4) - 1),i6 (AB b (at0+4) 4),i6 (AB b (at0+4+4) 4)] 52
abbrev Yw:=bk z #[pt pr] 115
abbrev QB:=(2,pt (z+1))
end
theorem window_r(w:World)(pr:Nat)(F:Nat→Prop)(b:List Int)(at0:Nat)(hr:D5 w pr F b at0 0):Calls Tryz.prog 127 #[.agg #[.pointer (some ⟨pr,0,none⟩)]] w fun e w'=>ZaC w pr F b (MI b at0) (fun x=> .agg (A7.arr x)) e w':=by
 obtain⟨z,hz⟩:∃ z,z=w.heap.size:=⟨_,rfl⟩
 refine BA (args:=[.agg #[pt pr]]) 11 ⟨w,z,[(old F w),(CG pr F b at0 0)]⟩ Tryz.func127 rfl (by kernel_rfl) (by kernel_rfl) (hz ▸ H8 hr) ?_
 have hB:=hr.Ou;have hlen:=hr.len;have hat:=hr.le
 refine Cc [0] [(0,.agg #[pt pr])] ?_
 refine q_c 5 0 [] [[o0,o0]] [] [(1,pt z),(QB z)] ⟨w,z+2,[(old F w),(CG pr F b at0 0),(Yw z pr),(bk (z+1) #[i6 0,i6 0,i6 0] 52)]⟩ rfl Ae ?_
 refine DK 8 [0,2,3] [(old F w),(Yw z pr),(bk (z+1) #[i6 0,i6 0,i6 0] 52)] rfl rfl ?_
 refine CP [(0,(a1 1)),(3,(a1 1)),(5,(a1 1))] [2,3,6,8] [Qb z,Qb z,Qb z] [true,false,false,true,false,true,false,false,false] [(QB z),(3,.agg #[pt pr]),(6,.agg #[pt pr]),(8,.agg #[pt pr])] ⟨rfl,rfl,rfl,Ae⟩ ?_
 refine AV 1 ?_
 refine EO [] [] 58 #[.agg #[pt pr]] (some 4) (by as_aux_lemma=>kernel_rfl) rfl rfl Ae ?_
 intro w1 hw1
 have hlew1:=D5.le (hw1.at (i:=1) (c:=(CG pr F b at0 0)) rfl)
 refine(EN w1 pr F b at0 (hw1.at (i:=1) rfl)).mono ?_
 rintro e w2 (⟨hqw2,rfl,hRw2,hkw2⟩ | ⟨hqw2,rfl,hkw2⟩)
 ·have hvbw2:=Eo hB at0
  obtain⟨hnw2,hSw2⟩:=DJ hw1 (i:=1) rfl hRw2 hkw2
  have hnw2':z+2≤w2.heap.size:=hnw2
  have hs3:=hSw2
  refine .inl ⟨_,_,rfl,hs3,.inr (fun c hc=>hs3.all c (by first | exact hc | exact Cm (is:=[0,2,3]) rfl c hc)), ?_⟩
  refine CB [2,6,8,4] [(QB z),(6,.agg #[pt pr]),(8,.agg #[pt pr]),(4,i6 (AB b at0 4))] ?_
  refine CP [(2,(ov (i6 ((AB b at0 4) - 1))))] [2,6,8,5] [Wr (((AB b at0 4):Int) - 1) ((AB b at0 4) - 1)] [true,true,true,true,false,true,false,false,false] [(QB z),(6,.agg #[pt pr]),(8,.agg #[pt pr]),(5,i6 ((AB b at0 4) - 1))] ⟨Dk,Ae⟩ ?_
  refine AV 4 ?_
  refine EO [] [] 58 #[.agg #[pt pr]] (some 7) (by as_aux_lemma=>kernel_rfl) rfl rfl Ae ?_
  intro w4 hw4
  have hlew4:=D5.le (hw4.at (i:=1) (c:=(CG pr F b (at0+4) 0)) rfl)
  refine(EN w4 pr F b (at0+4) (hw4.at (i:=1) rfl)).mono ?_
  rintro e w5 (⟨hqw5,rfl,hRw5,hkw5⟩ | ⟨hqw5,rfl,hkw5⟩)
  ·have hvbw5:=Eo hB (at0+4)
   obtain⟨hnw5,hSw5⟩:=DJ hw4 (i:=1) rfl hRw5 hkw5
   have hnw5':w2.heap.size≤w5.heap.size:=hnw5
   have hs6:=hSw5
   refine .inl ⟨_,_,rfl,hs6,.inr (fun c hc=>hs6.all c (by first | exact hc | exact Cm (is:=[0,2,3]) rfl c hc)), ?_⟩
   refine CB [2,8,5,7] [(QB z),(8,.agg #[pt pr]),(5,i6 ((AB b at0 4) - 1)),(7,i6 (AB b (at0+4) 4))] ?_
   refine AV 6 ?_
   refine EO [] [] 58 #[.agg #[pt pr]] (some 9) (by as_aux_lemma=>kernel_rfl) rfl rfl Ae ?_
   intro w7 hw7
   have hlew7:=D5.le (hw7.at (i:=1) (c:=(CG pr F b (at0+4+4) 0)) rfl)
   refine(EN w7 pr F b (at0+4+4) (hw7.at (i:=1) rfl)).mono ?_
   rintro e w8 (⟨hqw8,rfl,hRw8,hkw8⟩ | ⟨hqw8,rfl,hkw8⟩)
   ·have hvbw8:=Eo hB (at0+4+4)
    obtain⟨hnw8,hSw8⟩:=DJ hw7 (i:=1) rfl hRw8 hkw8
    have hnw8':w5.heap.size≤w8.heap.size:=hnw8
    have hs9:=hSw8
    refine .inl ⟨_,_,rfl,hs9,.inr (fun c hc=>hs9.all c (by first | exact hc | exact Cm (is:=[0,2,3]) rfl c hc)), ?_⟩
    refine CB [2,5,7,9] [(QB z),(5,i6 ((AB b at0 4) - 1)),(7,i6 (AB b (at0+4) 4)),(9,i6 (AB b (at0+4+4) 4))] ?_
    refine CP [(7,o0)] [2,10] [] (Dy 8 1) [(QB z),(10,.agg #[i6 ((AB b at0 4) - 1),i6 (AB b (at0+4) 4),i6 (AB b (at0+4+4) 4)])] Ae ?_
    refine AV 8 ?_
    refine Bi (an 3 3) [2] [Qb (z+1),Qb (z+1),Qb (z+1)] [(QB z)] ⟨w,w8.heap.size,[(old F w),(CG pr F b (at0+4+4+4) 0),(Yw z pr),(qfwa_0 z b at0)]⟩ [] ⟨rfl,rfl,rfl,Ae⟩ (.inl rfl) ?_
    refine D9 9 [0,1,2,3] [(old F w),(CG pr F b (at0+4+4+4) 0),(Yw z pr),(qfwa_0 z b at0)] rfl rfl ?_
    refine CQ ?_
    refine Cb [2] [(QB z)] ?_
    refine FX <| Jh <| AP [.at 3,.at 3,.at 3] [Qb (z+1),Qb (z+1),Qb (z+1)] (.agg #[i6 ((AB b at0 4) - 1),i6 (AB b (at0+4) 4),i6 (AB b (at0+4+4) 4)]) ⟨rfl,rfl,rfl,Ae⟩ ?_
    intro w10 hw10
    exact .inl ⟨_,_,(by unfold MI;rw[BP (by omega),PR.bind_ok,BP (by omega),PR.bind_ok,BP (by omega),PR.bind_ok]),rfl,hw10.at (i:=1) rfl,Au hw10⟩
   have hnw8:w5.heap.size≤w8.heap.size:=AY hw7 hkw8
   have hSw8:=D8 hw7 [0,2,3] (i:=1) rfl rfl rfl rfl hkw8
   refine .inr ⟨_,_,rfl,hSw8, ?_⟩
   refine BM ?_
   intro w11 hw11
   exact .inr ⟨_,(by unfold MI;rw[BP (by omega),PR.bind_ok,BP (by omega),PR.bind_ok,ES (by omega),PR.Ey]),rfl,Au hw11⟩
  have hnw5:w2.heap.size≤w5.heap.size:=AY hw4 hkw5
  have hSw5:=D8 hw4 [0,2,3] (i:=1) rfl rfl rfl rfl hkw5
  refine .inr ⟨_,_,rfl,hSw5, ?_⟩
  refine BM ?_
  intro w12 hw12
  exact .inr ⟨_,(by unfold MI;rw[BP (by omega),PR.bind_ok,ES (by omega),PR.Ey]),rfl,Au hw12⟩
 have hnw2:z+2≤w2.heap.size:=AY hw1 hkw2
 have hSw2:=D8 hw1 [0,2,3] (i:=1) rfl rfl rfl rfl hkw2
 refine .inr ⟨_,_,rfl,hSw2, ?_⟩
 refine BM ?_
 intro w13 hw13
 exact .inr ⟨_,(by unfold MI;rw[ES (by omega),PR.Ey]),rfl,Au hw13⟩
section
variable (z:Nat)(b:List Int)(at0 pr:Nat)
abbrev q6cs_0:=bk (z+1) #[i6 (AB b at0 4),i6 (AB b (at0+4) 4),i6 (AB b (at0+4+4) 4),i6 (AB b (at0+4+4+4) 4)] 64
abbrev Yn:=bk z #[pt pr] 115
abbrev QJ:=(2,pt (z+1))
end
theorem region_r(w:World)(pr:Nat)(F:Nat→Prop)(b:List Int)(at0:Nat)(hr:D5 w pr F b at0 0):Calls Tryz.prog 132 #[.agg #[.pointer (some ⟨pr,0,none⟩)]] w fun e w'=>ZaC w pr F b (Oc b at0) (fun x=> .agg (AX.arr x)) e w':=by
 obtain⟨z,hz⟩:∃ z,z=w.heap.size:=⟨_,rfl⟩
 refine BA (args:=[.agg #[pt pr]]) 12 ⟨w,z,[(old F w),(CG pr F b at0 0)]⟩ Tryz.func132 rfl (by kernel_rfl) (by kernel_rfl) (hz ▸ H8 hr) ?_
 have hB:=hr.Ou;have hlen:=hr.len;have hat:=hr.le
 refine Cc [0] [(0,.agg #[pt pr])] ?_
 refine q_c 5 0 [] [[o0,o0]] [] [(1,pt z),(QJ z)] ⟨w,z+2,[(old F w),(CG pr F b at0 0),(Yn z pr),(bk (z+1) #[i6 0,i6 0,i6 0,i6 0] 64)]⟩ rfl Ae ?_
 refine DK 9 [0,2,3] [(old F w),(Yn z pr),(bk (z+1) #[i6 0,i6 0,i6 0,i6 0] 64)] rfl rfl ?_
 refine CP [(0,(a1 1)),(2,(a1 1)),(4,(a1 1)),(6,(a1 1))] [2,3,5,7,9] [Qb z,Qb z,Qb z,Qb z] [true,false,true,false,true,false,true,false,false,false] [(QJ z),(3,.agg #[pt pr]),(5,.agg #[pt pr]),(7,.agg #[pt pr]),(9,.agg #[pt pr])] ⟨rfl,rfl,rfl,rfl,Ae⟩ ?_
 refine AV 1 ?_
 refine EO [] [] 58 #[.agg #[pt pr]] (some 4) (by as_aux_lemma=>kernel_rfl) rfl rfl Ae ?_
 intro w1 hw1
 have hlew1:=D5.le (hw1.at (i:=1) (c:=(CG pr F b at0 0)) rfl)
 refine(EN w1 pr F b at0 (hw1.at (i:=1) rfl)).mono ?_
 rintro e w2 (⟨hqw2,rfl,hRw2,hkw2⟩ | ⟨hqw2,rfl,hkw2⟩)
 ·have hvbw2:=Eo hB at0
  obtain⟨hnw2,hSw2⟩:=DJ hw1 (i:=1) rfl hRw2 hkw2
  have hnw2':z+2≤w2.heap.size:=hnw2
  have hs3:=hSw2
  refine .inl ⟨_,_,rfl,hs3,.inr (fun c hc=>hs3.all c (by first | exact hc | exact Cm (is:=[0,2,3]) rfl c hc)), ?_⟩
  refine CB [2,5,7,9,4] [(QJ z),(5,.agg #[pt pr]),(7,.agg #[pt pr]),(9,.agg #[pt pr]),(4,i6 (AB b at0 4))] ?_
  refine AV 3 ?_
  refine EO [] [] 58 #[.agg #[pt pr]] (some 6) (by as_aux_lemma=>kernel_rfl) rfl rfl Ae ?_
  intro w4 hw4
  have hlew4:=D5.le (hw4.at (i:=1) (c:=(CG pr F b (at0+4) 0)) rfl)
  refine(EN w4 pr F b (at0+4) (hw4.at (i:=1) rfl)).mono ?_
  rintro e w5 (⟨hqw5,rfl,hRw5,hkw5⟩ | ⟨hqw5,rfl,hkw5⟩)
  ·have hvbw5:=Eo hB (at0+4)
   obtain⟨hnw5,hSw5⟩:=DJ hw4 (i:=1) rfl hRw5 hkw5
   have hnw5':w2.heap.size≤w5.heap.size:=hnw5
   have hs6:=hSw5
   refine .inl ⟨_,_,rfl,hs6,.inr (fun c hc=>hs6.all c (by first | exact hc | exact Cm (is:=[0,2,3]) rfl c hc)), ?_⟩
   refine CB [2,7,9,4,6] [(QJ z),(7,.agg #[pt pr]),(9,.agg #[pt pr]),(4,i6 (AB b at0 4)),(6,i6 (AB b (at0+4) 4))] ?_
   refine AV 5 ?_
   refine EO [] [] 58 #[.agg #[pt pr]] (some 8) (by as_aux_lemma=>kernel_rfl) rfl rfl Ae ?_
   intro w7 hw7
   have hlew7:=D5.le (hw7.at (i:=1) (c:=(CG pr F b (at0+4+4) 0)) rfl)
   refine(EN w7 pr F b (at0+4+4) (hw7.at (i:=1) rfl)).mono ?_
   rintro e w8 (⟨hqw8,rfl,hRw8,hkw8⟩ | ⟨hqw8,rfl,hkw8⟩)
   ·have hvbw8:=Eo hB (at0+4+4)
    obtain⟨hnw8,hSw8⟩:=DJ hw7 (i:=1) rfl hRw8 hkw8
    have hnw8':w5.heap.size≤w8.heap.size:=hnw8
    have hs9:=hSw8
    refine .inl ⟨_,_,rfl,hs9,.inr (fun c hc=>hs9.all c (by first | exact hc | exact Cm (is:=[0,2,3]) rfl c hc)), ?_⟩
    refine CB [2,9,4,6,8] [(QJ z),(9,.agg #[pt pr]),(4,i6 (AB b at0 4)),(6,i6 (AB b (at0+4) 4)),(8,i6 (AB b (at0+4+4) 4))] ?_
    refine AV 7 ?_
    refine EO [] [] 58 #[.agg #[pt pr]] (some 10) (by as_aux_lemma=>kernel_rfl) rfl rfl Ae ?_
    intro w10 hw10
    have hlew10:=D5.le (hw10.at (i:=1) (c:=(CG pr F b (at0+4+4+4) 0)) rfl)
    refine(EN w10 pr F b (at0+4+4+4) (hw10.at (i:=1) rfl)).mono ?_
    rintro e w11 (⟨hqw11,rfl,hRw11,hkw11⟩ | ⟨hqw11,rfl,hkw11⟩)
    ·have hvbw11:=Eo hB (at0+4+4+4)
     obtain⟨hnw11,hSw11⟩:=DJ hw10 (i:=1) rfl hRw11 hkw11
     have hnw11':w8.heap.size≤w11.heap.size:=hnw11
     have hs12:=hSw11
     refine .inl ⟨_,_,rfl,hs12,.inr (fun c hc=>hs12.all c (by first | exact hc | exact Cm (is:=[0,2,3]) rfl c hc)), ?_⟩
     refine CB [2,4,6,8,10] [(QJ z),(4,i6 (AB b at0 4)),(6,i6 (AB b (at0+4) 4)),(8,i6 (AB b (at0+4+4) 4)),(10,i6 (AB b (at0+4+4+4) 4))] ?_
     refine CP [(8,o0)] [2,11] [] (Dy 9 1) [(QJ z),(11,.agg #[i6 (AB b at0 4),i6 (AB b (at0+4) 4),i6 (AB b (at0+4+4) 4),i6 (AB b (at0+4+4+4) 4)])] Ae ?_
     refine AV 9 ?_
     refine Bi (an 4 3) [2] [Qb (z+1),Qb (z+1),Qb (z+1),Qb (z+1)] [(QJ z)] ⟨w,w11.heap.size,[(old F w),(CG pr F b (at0+4+4+4+4) 0),(Yn z pr),(q6cs_0 z b at0)]⟩ [] ⟨rfl,rfl,rfl,rfl,Ae⟩ (.inl rfl) ?_
     refine D9 10 [0,1,2,3] [(old F w),(CG pr F b (at0+4+4+4+4) 0),(Yn z pr),(q6cs_0 z b at0)] rfl rfl ?_
     refine CQ ?_
     refine Cb [2] [(QJ z)] ?_
     refine FX <| Jh <| AP [.at 3,.at 3,.at 3,.at 3] [Qb (z+1),Qb (z+1),Qb (z+1),Qb (z+1)] (.agg #[i6 (AB b at0 4),i6 (AB b (at0+4) 4),i6 (AB b (at0+4+4) 4),i6 (AB b (at0+4+4+4) 4)]) ⟨rfl,rfl,rfl,rfl,Ae⟩ ?_
     intro w13 hw13
     exact .inl ⟨_,_,(by unfold Oc;rw[BP (by omega),PR.bind_ok,BP (by omega),PR.bind_ok,BP (by omega),PR.bind_ok,BP (by omega),PR.bind_ok]),rfl,hw13.at (i:=1) rfl,Au hw13⟩
    have hnw11:w8.heap.size≤w11.heap.size:=AY hw10 hkw11
    have hSw11:=D8 hw10 [0,2,3] (i:=1) rfl rfl rfl rfl hkw11
    refine .inr ⟨_,_,rfl,hSw11, ?_⟩
    refine BM ?_
    intro w14 hw14
    exact .inr ⟨_,(by unfold Oc;rw[BP (by omega),PR.bind_ok,BP (by omega),PR.bind_ok,BP (by omega),PR.bind_ok,ES (by omega),PR.Ey]),rfl,Au hw14⟩
   have hnw8:w5.heap.size≤w8.heap.size:=AY hw7 hkw8
   have hSw8:=D8 hw7 [0,2,3] (i:=1) rfl rfl rfl rfl hkw8
   refine .inr ⟨_,_,rfl,hSw8, ?_⟩
   refine BM ?_
   intro w15 hw15
   exact .inr ⟨_,(by unfold Oc;rw[BP (by omega),PR.bind_ok,BP (by omega),PR.bind_ok,ES (by omega),PR.Ey]),rfl,Au hw15⟩
  have hnw5:w2.heap.size≤w5.heap.size:=AY hw4 hkw5
  have hSw5:=D8 hw4 [0,2,3] (i:=1) rfl rfl rfl rfl hkw5
  refine .inr ⟨_,_,rfl,hSw5, ?_⟩
  refine BM ?_
  intro w16 hw16
  exact .inr ⟨_,(by unfold Oc;rw[BP (by omega),PR.bind_ok,ES (by omega),PR.Ey]),rfl,Au hw16⟩
 have hnw2:z+2≤w2.heap.size:=AY hw1 hkw2
 have hSw2:=D8 hw1 [0,2,3] (i:=1) rfl rfl rfl rfl hkw2
 refine .inr ⟨_,_,rfl,hSw2, ?_⟩
 refine BM ?_
 intro w17 hw17
 exact .inr ⟨_,(by unfold Oc;rw[ES (by omega),PR.Ey]),rfl,Au hw17⟩
section
variable (z pr:Nat)
abbrev Yv:=bk z #[pt pr] 115
abbrev Uf:=(2,pt (z+1))
end
theorem port_r(w:World)(pr:Nat)(F:Nat→Prop)(b:List Int)(at0:Nat)(hr:D5 w pr F b at0 0):Calls Tryz.prog 134 #[.agg #[.pointer (some ⟨pr,0,none⟩)]] w fun e w'=>ZaC w pr F b (Nz b at0) (fun x=> .agg (BR.arr x)) e w':=by
 obtain⟨z,hz⟩:∃ z,z=w.heap.size:=⟨_,rfl⟩
 refine BA (args:=[.agg #[pt pr]]) 9 ⟨w,z,[(old F w),(CG pr F b at0 0)]⟩ Tryz.func134 rfl (by kernel_rfl) (by kernel_rfl) (hz ▸ H8 hr) ?_
 have hB:=hr.Ou;have hlen:=hr.len;have hat:=hr.le
 refine Cc [0] [(0,.agg #[pt pr])] ?_
 refine q_c 5 0 [] [[o0,o0]] [] [(1,pt z),(Uf z)] ⟨w,z+2,[(old F w),(CG pr F b at0 0),(Yv z pr),(bk (z+1) #[i6 0,.bool false] 67)]⟩ rfl Ae ?_
 refine DK 6 [0,2,3] [(old F w),(Yv z pr),(bk (z+1) #[i6 0,.bool false] 67)] rfl rfl ?_
 refine CP [(0,(a1 1)),(2,(a1 1)),(3,o0)] [2,3,5,6] [Qb z,Qb z] [true,false,true,true,false,false,false] [(Uf z),(3,.agg #[pt pr]),(5,.agg #[pt pr]),(6,.func (.func 144) #[] #[pt z])] ⟨rfl,rfl,Ae⟩ ?_
 refine AV 1 ?_
 refine EO [] [] 58 #[.agg #[pt pr]] (some 4) (by as_aux_lemma=>kernel_rfl) rfl rfl Ae ?_
 intro w1 hw1
 have hlew1:=D5.le (hw1.at (i:=1) (c:=(CG pr F b at0 0)) rfl)
 refine(EN w1 pr F b at0 (hw1.at (i:=1) rfl)).mono ?_
 rintro e w2 (⟨hqw2,rfl,hRw2,hkw2⟩ | ⟨hqw2,rfl,hkw2⟩)
 ·have hvbw2:=Eo hB at0
  obtain⟨hnw2,hSw2⟩:=DJ hw1 (i:=1) rfl hRw2 hkw2
  have hnw2':z+2≤w2.heap.size:=hnw2
  have hs3:=hSw2
  refine .inl ⟨_,_,rfl,hs3,.inr (fun c hc=>hs3.all c (by first | exact hc | exact Cm (is:=[0,2,3]) rfl c hc)), ?_⟩
  refine CB [2,5,6,4] [(Uf z),(5,.agg #[pt pr]),(6,.func (.func 144) #[] #[pt z]),(4,i6 (AB b at0 4))] ?_
  refine AV 4 ?_
  refine EO [] [] 143 #[.agg #[pt pr],.func (.func 144) #[] #[pt z]] (some 7) (by as_aux_lemma=>kernel_rfl) rfl rfl Ae ?_
  intro w4 hw4
  refine(it_src w4 pr F b (at0+4) (hw4.at (i:=1) rfl) z (Rn hw4 (i:=1) (j:=2) rfl rfl (by decide)).1 (Rn hw4 (i:=1) (j:=2) rfl rfl (by decide)).2).mono ?_
  rintro e w5 (⟨hqw5,rfl,hRw5,hkw5⟩ | ⟨hqw5,rfl,hkw5⟩)
  ·obtain⟨hnw5,hSw5⟩:=DJ hw4 (i:=1) rfl hRw5 hkw5
   have hnw5':w2.heap.size≤w5.heap.size:=hnw5
   have hs6:=hSw5
   refine .inl ⟨_,_,rfl,hs6,.inr (fun c hc=>hs6.all c (by first | exact hc | exact Cm (is:=[0,2,3]) rfl c hc)), ?_⟩
   refine CB [2,4,7] [(Uf z),(4,i6 (AB b at0 4)),(7,.bool (decide (gd b (at0+4)=1)))] ?_
   refine CP [(5,o0)] [2,8] [] (Dy 6 1) [(Uf z),(8,.agg #[i6 (AB b at0 4),.bool (decide (gd b (at0+4)=1))])] Ae ?_
   refine AV 6 ?_
   refine Bi (an 2 3) [2] [Qb (z+1),Qb (z+1)] [(Uf z)] ⟨w,w5.heap.size,[(old F w),(CG pr F b (at0+4+1) 0),(Yv z pr),(bk (z+1) #[i6 (AB b at0 4),.bool (decide (gd b (at0+4)=1))] 67)]⟩ [] ⟨rfl,rfl,Ae⟩ (.inl rfl) ?_
   refine D9 7 [0,1,2,3] [(old F w),(CG pr F b (at0+4+1) 0),(Yv z pr),(bk (z+1) #[i6 (AB b at0 4),.bool (decide (gd b (at0+4)=1))] 67)] rfl rfl ?_
   refine CQ ?_
   refine Cb [2] [(Uf z)] ?_
   refine FX <| Jh <| AP [.at 3,.at 3] [Qb (z+1),Qb (z+1)] (.agg #[i6 (AB b at0 4),.bool (decide (gd b (at0+4)=1))]) ⟨rfl,rfl,Ae⟩ ?_
   intro w7 hw7
   exact .inl ⟨_,_,(by unfold Nz;rw[BP (by omega),PR.bind_ok,Yk (by omega),PR.bind_ok]),rfl,hw7.at (i:=1) rfl,Au hw7⟩
  have hnw5:w2.heap.size≤w5.heap.size:=AY hw4 hkw5
  have hSw5:=D8 hw4 [0,2,3] (i:=1) rfl rfl rfl rfl hkw5
  refine .inr ⟨_,_,rfl,hSw5, ?_⟩
  refine BM ?_
  intro w8 hw8
  exact .inr ⟨_,(by unfold Nz;rw[BP (by omega),PR.bind_ok,srcAt_no (by omega),PR.Ey]),rfl,Au hw8⟩
 have hnw2:z+2≤w2.heap.size:=AY hw1 hkw2
 have hSw2:=D8 hw1 [0,2,3] (i:=1) rfl rfl rfl rfl hkw2
 refine .inr ⟨_,_,rfl,hSw2, ?_⟩
 refine BM ?_
 intro w9 hw9
 exact .inr ⟨_,(by unfold Nz;rw[ES (by omega),PR.Ey]),rfl,Au hw9⟩
section
variable (z:Nat)(b:List Int)(at0 pr:Nat)
abbrev queg_0:=bk (z+1) #[i6 (AB b at0 4),i6 (AB b (at0+4) 4),i6 (AB b (at0+4+4) 4)] 49
abbrev Y9:=bk z #[pt pr] 115
abbrev RQ:=(2,pt (z+1))
end
theorem channel_r(w:World)(pr:Nat)(F:Nat→Prop)(b:List Int)(at0:Nat)(hr:D5 w pr F b at0 0):Calls Tryz.prog 103 #[.agg #[.pointer (some ⟨pr,0,none⟩)]] w fun e w'=>ZaC w pr F b (Gv b at0) (fun x=> .agg (AQ.arr x)) e w':=by
 obtain⟨z,hz⟩:∃ z,z=w.heap.size:=⟨_,rfl⟩
 refine BA (args:=[.agg #[pt pr]]) 10 ⟨w,z,[(old F w),(CG pr F b at0 0)]⟩ Tryz.func103 rfl (by kernel_rfl) (by kernel_rfl) (hz ▸ H8 hr) ?_
 have hB:=hr.Ou;have hlen:=hr.len;have hat:=hr.le
 refine Cc [0] [(0,.agg #[pt pr])] ?_
 refine q_c 5 0 [] [[o0,o0]] [] [(1,pt z),(RQ z)] ⟨w,z+2,[(old F w),(CG pr F b at0 0),(Y9 z pr),(bk (z+1) #[i6 0,i6 0,i6 0] 49)]⟩ rfl Ae ?_
 refine DK 7 [0,2,3] [(old F w),(Y9 z pr),(bk (z+1) #[i6 0,i6 0,i6 0] 49)] rfl rfl ?_
 refine CP [(0,(a1 1)),(2,(a1 1)),(4,(a1 1))] [2,3,5,7] [Qb z,Qb z,Qb z] [true,false,true,false,true,false,false,false] [(RQ z),(3,.agg #[pt pr]),(5,.agg #[pt pr]),(7,.agg #[pt pr])] ⟨rfl,rfl,rfl,Ae⟩ ?_
 refine AV 1 ?_
 refine EO [] [] 58 #[.agg #[pt pr]] (some 4) (by as_aux_lemma=>kernel_rfl) rfl rfl Ae ?_
 intro w1 hw1
 have hlew1:=D5.le (hw1.at (i:=1) (c:=(CG pr F b at0 0)) rfl)
 refine(EN w1 pr F b at0 (hw1.at (i:=1) rfl)).mono ?_
 rintro e w2 (⟨hqw2,rfl,hRw2,hkw2⟩ | ⟨hqw2,rfl,hkw2⟩)
 ·have hvbw2:=Eo hB at0
  obtain⟨hnw2,hSw2⟩:=DJ hw1 (i:=1) rfl hRw2 hkw2
  have hnw2':z+2≤w2.heap.size:=hnw2
  have hs3:=hSw2
  refine .inl ⟨_,_,rfl,hs3,.inr (fun c hc=>hs3.all c (by first | exact hc | exact Cm (is:=[0,2,3]) rfl c hc)), ?_⟩
  refine CB [2,5,7,4] [(RQ z),(5,.agg #[pt pr]),(7,.agg #[pt pr]),(4,i6 (AB b at0 4))] ?_
  refine AV 3 ?_
  refine EO [] [] 58 #[.agg #[pt pr]] (some 6) (by as_aux_lemma=>kernel_rfl) rfl rfl Ae ?_
  intro w4 hw4
  have hlew4:=D5.le (hw4.at (i:=1) (c:=(CG pr F b (at0+4) 0)) rfl)
  refine(EN w4 pr F b (at0+4) (hw4.at (i:=1) rfl)).mono ?_
  rintro e w5 (⟨hqw5,rfl,hRw5,hkw5⟩ | ⟨hqw5,rfl,hkw5⟩)
  ·have hvbw5:=Eo hB (at0+4)
   obtain⟨hnw5,hSw5⟩:=DJ hw4 (i:=1) rfl hRw5 hkw5
   have hnw5':w2.heap.size≤w5.heap.size:=hnw5
   have hs6:=hSw5
   refine .inl ⟨_,_,rfl,hs6,.inr (fun c hc=>hs6.all c (by first | exact hc | exact Cm (is:=[0,2,3]) rfl c hc)), ?_⟩
   refine CB [2,7,4,6] [(RQ z),(7,.agg #[pt pr]),(4,i6 (AB b at0 4)),(6,i6 (AB b (at0+4) 4))] ?_
   refine AV 5 ?_
   refine EO [] [] 58 #[.agg #[pt pr]] (some 8) (by as_aux_lemma=>kernel_rfl) rfl rfl Ae ?_
   intro w7 hw7
   have hlew7:=D5.le (hw7.at (i:=1) (c:=(CG pr F b (at0+4+4) 0)) rfl)
   refine(EN w7 pr F b (at0+4+4) (hw7.at (i:=1) rfl)).mono ?_
   rintro e w8 (⟨hqw8,rfl,hRw8,hkw8⟩ | ⟨hqw8,rfl,hkw8⟩)
   ·have hvbw8:=Eo hB (at0+4+4)
    obtain⟨hnw8,hSw8⟩:=DJ hw7 (i:=1) rfl hRw8 hkw8
    have hnw8':w5.heap.size≤w8.heap.size:=hnw8
    have hs9:=hSw8
    refine .inl ⟨_,_,rfl,hs9,.inr (fun c hc=>hs9.all c (by first | exact hc | exact Cm (is:=[0,2,3]) rfl c hc)), ?_⟩
    refine CB [2,4,6,8] [(RQ z),(4,i6 (AB b at0 4)),(6,i6 (AB b (at0+4) 4)),(8,i6 (AB b (at0+4+4) 4))] ?_
    refine CP [(6,o0)] [2,9] [] (Dy 7 1) [(RQ z),(9,.agg #[i6 (AB b at0 4),i6 (AB b (at0+4) 4),i6 (AB b (at0+4+4) 4)])] Ae ?_
    refine AV 7 ?_
    refine Bi (an 3 3) [2] [Qb (z+1),Qb (z+1),Qb (z+1)] [(RQ z)] ⟨w,w8.heap.size,[(old F w),(CG pr F b (at0+4+4+4) 0),(Y9 z pr),(queg_0 z b at0)]⟩ [] ⟨rfl,rfl,rfl,Ae⟩ (.inl rfl) ?_
    refine D9 8 [0,1,2,3] [(old F w),(CG pr F b (at0+4+4+4) 0),(Y9 z pr),(queg_0 z b at0)] rfl rfl ?_
    refine CQ ?_
    refine Cb [2] [(RQ z)] ?_
    refine FX <| Jh <| AP [.at 3,.at 3,.at 3] [Qb (z+1),Qb (z+1),Qb (z+1)] (.agg #[i6 (AB b at0 4),i6 (AB b (at0+4) 4),i6 (AB b (at0+4+4) 4)]) ⟨rfl,rfl,rfl,Ae⟩ ?_
    intro w10 hw10
    exact .inl ⟨_,_,(by unfold Gv;rw[BP (by omega),PR.bind_ok,BP (by omega),PR.bind_ok,BP (by omega),PR.bind_ok]),rfl,hw10.at (i:=1) rfl,Au hw10⟩
   have hnw8:w5.heap.size≤w8.heap.size:=AY hw7 hkw8
   have hSw8:=D8 hw7 [0,2,3] (i:=1) rfl rfl rfl rfl hkw8
   refine .inr ⟨_,_,rfl,hSw8, ?_⟩
   refine BM ?_
   intro w11 hw11
   exact .inr ⟨_,(by unfold Gv;rw[BP (by omega),PR.bind_ok,BP (by omega),PR.bind_ok,ES (by omega),PR.Ey]),rfl,Au hw11⟩
  have hnw5:w2.heap.size≤w5.heap.size:=AY hw4 hkw5
  have hSw5:=D8 hw4 [0,2,3] (i:=1) rfl rfl rfl rfl hkw5
  refine .inr ⟨_,_,rfl,hSw5, ?_⟩
  refine BM ?_
  intro w12 hw12
  exact .inr ⟨_,(by unfold Gv;rw[BP (by omega),PR.bind_ok,ES (by omega),PR.Ey]),rfl,Au hw12⟩
 have hnw2:z+2≤w2.heap.size:=AY hw1 hkw2
 have hSw2:=D8 hw1 [0,2,3] (i:=1) rfl rfl rfl rfl hkw2
 refine .inr ⟨_,_,rfl,hSw2, ?_⟩
 refine BM ?_
 intro w13 hw13
 exact .inr ⟨_,(by unfold Gv;rw[ES (by omega),PR.Ey]),rfl,Au hw13⟩
def many{α:Type}(one:Nat→PR α):Nat→Nat→PR (List α)
 | 0,a=> .ok [] a
 | n+1,a=>(many one n a).bind fun xs a=>(one a).bind fun x a=> .ok (xs++[x]) a
def Hr{α:Type}(b:List Int)(one:Nat→PR α)(a:Nat):PR (List α):=(byteAt b a).bind fun n a=>many one n.toNat a
theorem Ox{α:Type}{one:Nat→PR α}{n a a1 a2:Nat}{xs:List α}{x:α}(h:many one n a = .ok xs a1)(hx:one a1 = .ok x a2):many one (n+1) a = .ok (xs++[x]) a2:=by
 rw[many,h,PR.bind_ok,hx,PR.bind_ok]
theorem Xb{α:Type}{one:Nat→PR α}{n a a1 p:Nat}{xs:List α}(h:many one n a = .ok xs a1)(hx:one a1 = .no p):∀ k,n<k→many one k a = .no p
 | k+1,hk=>by
  by_cases e:n=k
  ·subst e;rw[many,h,PR.bind_ok,hx,PR.Ey]
  rw[many,Xb h hx k (by omega),PR.Ey]
theorem Om{α:Type}{one:Nat→PR α}:∀ {n a a1:Nat} {xs:List α},many one n a = .ok xs a1→xs.length=n
 | 0,a,a1,xs,h=>by cases h;rfl
 | n+1,a,a1,xs,h=>by
  obtain⟨ys,a2,h1,h⟩:=Hl h
  obtain⟨x,a3,h2,h⟩:=Hl h
  cases h
  rw[List.length_append,Om h1];rfl
theorem SK{α:Type}{b:List Int}{one:Nat→PR α}{a a2 n k:Nat}{xs:List α}(h1:a+1≤b.length)(h2:gd b a=(n:Int))(hk:k=n)(h:many one k (a+1) = .ok xs a2):Hr b one a = .ok xs a2:=by
 subst hk
 unfold Hr;rw[Ws h1,PR.bind_ok,h2];exact h
theorem QN{α:Type}{b:List Int}{one:Nat→PR α}{a:Nat}(h1:¬ a+1≤b.length):Hr b one a = .no a:=by
 unfold Hr;rw[byteAt_no h1,PR.Ey]
theorem SN{α:Type}{b:List Int}{one:Nat→PR α}{a a1 n i p:Nat}{xs:List α}(h1:a+1≤b.length)(h2:gd b a=(n:Int))(hi:i<n)(h:many one i (a+1) = .ok xs a1)(hx:one a1 = .no p):Hr b one a = .no p:=by
 unfold Hr;rw[Ws h1,PR.bind_ok,h2];exact Xb h hx _ hi
theorem QS{α:Type}{b:List Int}{one:Nat→PR α}{a a2:Nat}{xs:List α}(hB:Gj b)(h:Hr b one a = .ok xs a2):xs.length≤255∧gd b a=(xs.length:Int)∧a+1≤b.length∧many one xs.length (a+1) = .ok xs a2:=by
 obtain⟨n,a1,h1,h⟩:=Hl h
 obtain⟨h2,h3,h4⟩:=Za0 h1
 have h5:=Om h
 have h6:=J7 hB a
 subst h4
 rw[←h5]at h
 exact⟨by omega,by omega,h2,h⟩
def YV{α:Type}(w:World)(pr:Nat)(F:Nat→Prop)(b:List Int)(r:PR (List α))(E:TypeId)(sz:Nat)(cells:α→List Value)(e:Ending)(w':World):Prop :=
 (∃ xs a ad cap,r = .ok xs a∧e = .returned (.slice ad xs.length cap)∧D5 w' pr F b a 0∧BH F w w'∧(BB w.heap.size E sz cells (.slice ad xs.length cap) xs).holds w')∨(∃ p,r = .no p∧e = .panicked (Ve 110 p)∧BH F w w')
theorem sat_one{w:World}{c:Ch}(h:c.holds w)(hst:c.stable)(hb:∀ b,c.F b→b<w.heap.size):Sat ⟨w,w.heap.size,[c]⟩ w :=
 ⟨rfl,rfl,rfl,rfl,fun d hd=>by rw[List.mem_singleton.1 hd];exact h,fun d hd=>by rw[List.mem_singleton.1 hd];exact hb,fun d hd=>by rw[List.mem_singleton.1 hd];exact hst,by simp⟩
theorem Xa{α:Type}{A:AW}{w w':World}{i pr:Nat}{F:Nat→Prop}{b:List Int}{at0 at':Nat}{fl0 fl:Int}{e:TypeId}{sz:Nat}{cells:α→List Value}{v:Value}{xs:List α}(h:Sat A w)(hi:A.σ[i]? = some (CG pr F b at0 fl0))(hR:D5 w' pr F b at' fl)(hk:BH F w w')(ho:(BB w.heap.size e sz cells v xs).holds w')(z:Nat)(hz:z≤A.n):A.n≤w'.heap.size∧Sat { A with n:=w'.heap.size,σ:=A.σ.set i (CG pr F b at' fl)++[BB z e sz cells v xs] } w' :=
 ⟨AY h hk,h.turnMade hi rfl rfl hk hR (RF _ _ _ _ _) (fun _ h=>h) (sat_one (Zm ho (by rw[h.size];exact hz)) (Gx _ _ _ _ _ _) (fun b hb=>((show w'.ownsRow w.heap.size e sz v xs.length (xs.flatMap cells)from ho).lt b hb).2)) (fun d hd b hb=>by rw[List.mem_singleton.1 hd]at hb;exact((show w'.ownsRow w.heap.size e sz v xs.length (xs.flatMap cells)from ho).lt b hb).1)⟩
section
variable (z pr:Nat)
abbrev WV:=bk z #[pt pr] 115
end
theorem takeW(w:World)(pr:Nat)(F:Nat→Prop)(b:List Int)(at0:Nat)(hr:D5 w pr F b at0 0):Calls Tryz.prog 126 #[.agg #[.pointer (some ⟨pr,0,none⟩)],.func (.func 127) #[] #[]] w fun e w'=>YV w pr F b (Hr b (MI b) at0) 52 3 A7.cells e w':=by
 obtain⟨z,hz⟩:∃ z,z=w.heap.size:=⟨_,rfl⟩
 refine BA (args:=[.agg #[pt pr],.func (.func 127) #[] #[]]) 20 ⟨w,z,[(old F w),(CG pr F b at0 0)]⟩ Tryz.func126 rfl (by kernel_rfl) (by kernel_rfl) (hz ▸ H8 hr) ?_
 have hB:=hr.Ou;have hlen:=hr.len;have hat:=hr.le
 refine Cc [0,1] [(0,.agg #[pt pr]),(1,.func (.func 127) #[] #[])] ?_
 refine q_c 6 1 [] [[o0,o0],[(a1 2)]] [Qb z] [(1,.func (.func 127) #[] #[]),(2,pt z),(7,.agg #[pt pr])] ⟨w,z+1,[(old F w),(CG pr F b at0 0),(WV z pr)]⟩ rfl ⟨rfl,Ae⟩ ?_
 refine DT [] [] 125 #[.agg #[pt pr]] (some 8) Ae ?_
 intro w1 hw1
 have hlew1:=D5.le (hw1.at (i:=1) (c:=(CG pr F b at0 0)) rfl)
 refine(Vp w1 pr F b at0 (hw1.at (i:=1) rfl)).mono ?_
 rintro e w2 (⟨hqw2,rfl,hRw2,hkw2⟩ | ⟨hqw2,rfl,hkw2⟩)
 ·have hvbw2:=J7 hB at0
  obtain⟨n3,hnn3⟩:∃ n:Nat,(gd b at0)=(n:Int):=⟨_,(Int.toNat_of_nonneg hvbw2.1).symm⟩;rw[hnn3]
  obtain⟨hnw2,hSw2⟩:=DJ hw1 (i:=1) rfl hRw2 hkw2
  have hnw2':z+1≤w2.heap.size:=hnw2
  refine .inl ⟨_,_,rfl,hSw2, ?_⟩
  refine Bv 12 0 [] [[o0],[o0],[o0,o0]] [] [(1,.func (.func 127) #[] #[]),(2,pt z),(6,.slice none 0 0),(9,Aa n3),(10,i6 0)] rfl Ae ?_
  refine N8 z 52 3 A7.cells ?_
  refine DI (fun m a w'=>∃ (n5:Nat) (i:Nat) (xs:List A7) (ati:Nat) (aL:Option Addr) (cL:Nat),m=n3 - i∧w2.heap.size≤n5∧(i≤n3)∧(many (MI b) i (at0+1) = .ok xs ati)∧St 20 [(1,.func (.func 127) #[] #[]),(2,pt z),(6,.slice aL xs.length cL),(9,Aa n3),(10,Aa i)] [] ⟨w,n5,[(old F w),(CG pr F b ati 0),(WV z pr),(BB z 52 3 A7.cells (.slice aL xs.length cL) xs)]⟩ a w') (n3 - 0) ?_ ?_
  ·intro a w' hs;exact⟨w2.heap.size,0,([]),(at0+1),none,0,rfl,Nat.le_refl _,Nat.zero_le _,rfl,hs⟩
  rintro m a w' ⟨n5,i,xs,ati,aL,cL,rfl,hn4,hki,hm,hs⟩
  refine(?_:G Tryz.prog 20 [(1,.func (.func 127) #[] #[]),(2,pt z),(6,.slice aL xs.length cL),(9,Aa n3),(10,Aa i)] [] ⟨w,n5,[(old F w),(CG pr F b ati 0),(WV z pr),(BB z 52 3 A7.cells (.slice aL xs.length cL) xs)]⟩ _ _ _) a w' hs
  clear hs a w'
  have hxl:=Om hm
  refine Dl ?_
  by_cases h6:(i:Int)<(n3:Int)
  ·refine A8 10 3 [1] [[oT],[o0,o0,(a1 2)]] [BT ((i:Int)<(n3:Int)),Qb z] [(1,.func (.func 127) #[] #[]),(2,pt z),(9,Aa n3),(10,Aa i),(12,.slice aL xs.length cL),(13,.func (.func 127) #[] #[]),(14,.agg #[pt pr])] rfl ⟨bt,rfl,Ae⟩ ?_
   refine DT [] [] 127 #[.agg #[pt pr]] (some 15) Ae ?_
   intro w7 hw7
   have hlew7:=D5.le (hw7.at (i:=1) (c:=(CG pr F b ati 0)) rfl)
   refine(window_r w7 pr F b ati (hw7.at (i:=1) rfl)).mono ?_
   rintro e w11 (⟨x8,n9,hxw11,rfl,hRw11,hkw11⟩ | ⟨n10,hxw11,rfl,hkw11⟩)
   ·have hrngw11:=winAt_rng hB hxw11
    obtain⟨hnw11,hSw11⟩:=DJ hw7 (i:=1) rfl hRw11 hkw11
    have hnw11':n5≤w11.heap.size:=hnw11
    refine .inl ⟨_,_,rfl,hSw11, ?_⟩
    refine EG 0 1 [] [[o0]] [] [(1,.func (.func 127) #[] #[]),(2,pt z),(9,Aa n3),(10,Aa i),(12,.slice aL xs.length cL),(16,.slice (some ⟨w11.heap.size,0,none⟩) 1 1)] ⟨w,w11.heap.size+1,[(old F w),(CG pr F b n9 0),(WV z pr),(BB z 52 3 A7.cells (.slice aL xs.length cL) xs),(.blk w11.heap.size (.cells #[i6 x8.Partition,i6 x8.Bq,i6 x8.AC] 52 (0,0)) true)]⟩ rfl Ae ?_
    refine QG z 3 4 xs [(⟨x8.Partition,x8.Bq,x8.AC⟩:A7)] A7.cells 52 3 24 (.slice aL xs.length cL) w11.heap.size 1 1 #[i6 x8.Partition,i6 x8.Bq,i6 x8.AC] 52 (0,0) true (some 17) (by simp only[List.length_cons,List.length_nil];omega) (show z≤w11.heap.size+1 by omega) (fun ax12 cp13 n14 (hn15:w11.heap.size+1≤n14) => ?_)
    refine Bv 5 0 [] [[o0],[(ov (i6 ((i+1:Nat):Int))),o0]] [Wr ((i:Int)+1) (((i+1:Nat):Int))] [(1,.func (.func 127) #[] #[]),(2,pt z),(9,Aa n3),(10,i6 ((i+1:Nat):Int)),(6,.slice ax12 ((xs++[(⟨x8.Partition,x8.Bq,x8.AC⟩:A7)]).length) cp13)] rfl ⟨Dk,Ae⟩ ?_
    refine C9 [0,1,2,3] [(old F w),(CG pr F b n9 0),(WV z pr),(BB z 52 3 A7.cells (.slice ax12 ((xs++[(⟨x8.Partition,x8.Bq,x8.AC⟩:A7)]).length) cp13) (xs++[(⟨x8.Partition,x8.Bq,x8.AC⟩:A7)]))] rfl rfl ?_
    refine Cb [1,2,6,9,10] [(1,.func (.func 127) #[] #[]),(2,pt z),(6,.slice ax12 ((xs++[(⟨x8.Partition,x8.Bq,x8.AC⟩:A7)]).length) cp13),(9,Aa n3),(10,i6 ((i+1:Nat):Int))] ?_
    refine CS (fun a w' hs=>⟨n3 - (i+1),by omega,n14,(i+1),(xs++[(⟨x8.Partition,x8.Bq,x8.AC⟩:A7)]),n9,ax12,cp13,rfl,by omega,by omega,Ox hm hxw11,hs⟩)
   have hnw11:n5≤w11.heap.size:=AY hw7 hkw11
   have hSw11:=D8 hw7 [0,2,3] (i:=1) rfl rfl rfl rfl hkw11
   refine .inr ⟨_,_,rfl,hSw11, ?_⟩
   refine BM ?_
   intro w16 hw16
   exact .inr ⟨_,SN (by omega) hnn3 (by omega) hm hxw11,rfl,Au hw16⟩
  refine A8 15 0 [0] [[oF],[o0,o0]] [BF ((i:Int)<(n3:Int))] [(4,.slice aL xs.length cL)] rfl ⟨bf,Ae⟩ ?_
  refine AP [] [] (.slice aL xs.length cL) Ae ?_
  intro w17 hw17
  have hrow:=hw17.at (i:=3) (c:=(BB z 52 3 A7.cells (.slice aL xs.length cL) xs)) rfl
  exact .inl ⟨xs,ati,_,_,SK (by omega) hnn3 (by omega) hm,rfl,hw17.at (i:=1) rfl,Au hw17,hz ▸ hrow⟩
 have hnw2:z+1≤w2.heap.size:=AY hw1 hkw2
 have hSw2:=D8 hw1 [0,2] (i:=1) rfl rfl rfl rfl hkw2
 refine .inr ⟨_,_,rfl,hSw2, ?_⟩
 refine BM ?_
 intro w18 hw18
 exact .inr ⟨_,QN (by omega),rfl,Au hw18⟩
section
variable (z pr:Nat)
abbrev WS:=bk z #[pt pr] 115
end
theorem takeR(w:World)(pr:Nat)(F:Nat→Prop)(b:List Int)(at0:Nat)(hr:D5 w pr F b at0 0):Calls Tryz.prog 131 #[.agg #[.pointer (some ⟨pr,0,none⟩)],.func (.func 132) #[] #[]] w fun e w'=>YV w pr F b (Hr b (Oc b) at0) 64 4 AX.cells e w':=by
 obtain⟨z,hz⟩:∃ z,z=w.heap.size:=⟨_,rfl⟩
 refine BA (args:=[.agg #[pt pr],.func (.func 132) #[] #[]]) 20 ⟨w,z,[(old F w),(CG pr F b at0 0)]⟩ Tryz.func131 rfl (by kernel_rfl) (by kernel_rfl) (hz ▸ H8 hr) ?_
 have hB:=hr.Ou;have hlen:=hr.len;have hat:=hr.le
 refine Cc [0,1] [(0,.agg #[pt pr]),(1,.func (.func 132) #[] #[])] ?_
 refine q_c 6 1 [] [[o0,o0],[(a1 2)]] [Qb z] [(1,.func (.func 132) #[] #[]),(2,pt z),(7,.agg #[pt pr])] ⟨w,z+1,[(old F w),(CG pr F b at0 0),(WS z pr)]⟩ rfl ⟨rfl,Ae⟩ ?_
 refine DT [] [] 125 #[.agg #[pt pr]] (some 8) Ae ?_
 intro w1 hw1
 have hlew1:=D5.le (hw1.at (i:=1) (c:=(CG pr F b at0 0)) rfl)
 refine(Vp w1 pr F b at0 (hw1.at (i:=1) rfl)).mono ?_
 rintro e w2 (⟨hqw2,rfl,hRw2,hkw2⟩ | ⟨hqw2,rfl,hkw2⟩)
 ·have hvbw2:=J7 hB at0
  obtain⟨n3,hnn3⟩:∃ n:Nat,(gd b at0)=(n:Int):=⟨_,(Int.toNat_of_nonneg hvbw2.1).symm⟩;rw[hnn3]
  obtain⟨hnw2,hSw2⟩:=DJ hw1 (i:=1) rfl hRw2 hkw2
  have hnw2':z+1≤w2.heap.size:=hnw2
  refine .inl ⟨_,_,rfl,hSw2, ?_⟩
  refine Bv 12 0 [] [[o0],[o0],[o0,o0]] [] [(1,.func (.func 132) #[] #[]),(2,pt z),(6,.slice none 0 0),(9,Aa n3),(10,i6 0)] rfl Ae ?_
  refine N8 z 64 4 AX.cells ?_
  refine DI (fun m a w'=>∃ (n5:Nat) (i:Nat) (xs:List AX) (ati:Nat) (aL:Option Addr) (cL:Nat),m=n3 - i∧w2.heap.size≤n5∧(i≤n3)∧(many (Oc b) i (at0+1) = .ok xs ati)∧St 20 [(1,.func (.func 132) #[] #[]),(2,pt z),(6,.slice aL xs.length cL),(9,Aa n3),(10,Aa i)] [] ⟨w,n5,[(old F w),(CG pr F b ati 0),(WS z pr),(BB z 64 4 AX.cells (.slice aL xs.length cL) xs)]⟩ a w') (n3 - 0) ?_ ?_
  ·intro a w' hs;exact⟨w2.heap.size,0,([]),(at0+1),none,0,rfl,Nat.le_refl _,Nat.zero_le _,rfl,hs⟩
  rintro m a w' ⟨n5,i,xs,ati,aL,cL,rfl,hn4,hki,hm,hs⟩
  refine(?_:G Tryz.prog 20 [(1,.func (.func 132) #[] #[]),(2,pt z),(6,.slice aL xs.length cL),(9,Aa n3),(10,Aa i)] [] ⟨w,n5,[(old F w),(CG pr F b ati 0),(WS z pr),(BB z 64 4 AX.cells (.slice aL xs.length cL) xs)]⟩ _ _ _) a w' hs
  clear hs a w'
  have hxl:=Om hm
  refine Dl ?_
  by_cases h6:(i:Int)<(n3:Int)
  ·refine A8 10 3 [1] [[oT],[o0,o0,(a1 2)]] [BT ((i:Int)<(n3:Int)),Qb z] [(1,.func (.func 132) #[] #[]),(2,pt z),(9,Aa n3),(10,Aa i),(12,.slice aL xs.length cL),(13,.func (.func 132) #[] #[]),(14,.agg #[pt pr])] rfl ⟨bt,rfl,Ae⟩ ?_
   refine DT [] [] 132 #[.agg #[pt pr]] (some 15) Ae ?_
   intro w7 hw7
   have hlew7:=D5.le (hw7.at (i:=1) (c:=(CG pr F b ati 0)) rfl)
   refine(region_r w7 pr F b ati (hw7.at (i:=1) rfl)).mono ?_
   rintro e w11 (⟨x8,n9,hxw11,rfl,hRw11,hkw11⟩ | ⟨n10,hxw11,rfl,hkw11⟩)
   ·have hrngw11:=regAt_rng hB hxw11
    obtain⟨hnw11,hSw11⟩:=DJ hw7 (i:=1) rfl hRw11 hkw11
    have hnw11':n5≤w11.heap.size:=hnw11
    refine .inl ⟨_,_,rfl,hSw11, ?_⟩
    refine EG 0 1 [] [[o0]] [] [(1,.func (.func 132) #[] #[]),(2,pt z),(9,Aa n3),(10,Aa i),(12,.slice aL xs.length cL),(16,.slice (some ⟨w11.heap.size,0,none⟩) 1 1)] ⟨w,w11.heap.size+1,[(old F w),(CG pr F b n9 0),(WS z pr),(BB z 64 4 AX.cells (.slice aL xs.length cL) xs),(.blk w11.heap.size (.cells #[i6 x8.CO,i6 x8.BO,i6 x8.Frame,i6 x8.EM] 64 (0,0)) true)]⟩ rfl Ae ?_
    refine QG z 3 4 xs [(⟨x8.CO,x8.BO,x8.Frame,x8.EM⟩:AX)] AX.cells 64 4 32 (.slice aL xs.length cL) w11.heap.size 1 1 #[i6 x8.CO,i6 x8.BO,i6 x8.Frame,i6 x8.EM] 64 (0,0) true (some 17) (by simp only[List.length_cons,List.length_nil];omega) (show z≤w11.heap.size+1 by omega) (fun ax12 cp13 n14 (hn15:w11.heap.size+1≤n14) => ?_)
    refine Bv 5 0 [] [[o0],[(ov (i6 ((i+1:Nat):Int))),o0]] [Wr ((i:Int)+1) (((i+1:Nat):Int))] [(1,.func (.func 132) #[] #[]),(2,pt z),(9,Aa n3),(10,i6 ((i+1:Nat):Int)),(6,.slice ax12 ((xs++[(⟨x8.CO,x8.BO,x8.Frame,x8.EM⟩:AX)]).length) cp13)] rfl ⟨Dk,Ae⟩ ?_
    refine C9 [0,1,2,3] [(old F w),(CG pr F b n9 0),(WS z pr),(BB z 64 4 AX.cells (.slice ax12 ((xs++[(⟨x8.CO,x8.BO,x8.Frame,x8.EM⟩:AX)]).length) cp13) (xs++[(⟨x8.CO,x8.BO,x8.Frame,x8.EM⟩:AX)]))] rfl rfl ?_
    refine Cb [1,2,6,9,10] [(1,.func (.func 132) #[] #[]),(2,pt z),(6,.slice ax12 ((xs++[(⟨x8.CO,x8.BO,x8.Frame,x8.EM⟩:AX)]).length) cp13),(9,Aa n3),(10,i6 ((i+1:Nat):Int))] ?_
    refine CS (fun a w' hs=>⟨n3 - (i+1),by omega,n14,(i+1),(xs++[(⟨x8.CO,x8.BO,x8.Frame,x8.EM⟩:AX)]),n9,ax12,cp13,rfl,by omega,by omega,Ox hm hxw11,hs⟩)
   have hnw11:n5≤w11.heap.size:=AY hw7 hkw11
   have hSw11:=D8 hw7 [0,2,3] (i:=1) rfl rfl rfl rfl hkw11
   refine .inr ⟨_,_,rfl,hSw11, ?_⟩
   refine BM ?_
   intro w16 hw16
   exact .inr ⟨_,SN (by omega) hnn3 (by omega) hm hxw11,rfl,Au hw16⟩
  refine A8 15 0 [0] [[oF],[o0,o0]] [BF ((i:Int)<(n3:Int))] [(4,.slice aL xs.length cL)] rfl ⟨bf,Ae⟩ ?_
  refine AP [] [] (.slice aL xs.length cL) Ae ?_
  intro w17 hw17
  have hrow:=hw17.at (i:=3) (c:=(BB z 64 4 AX.cells (.slice aL xs.length cL) xs)) rfl
  exact .inl ⟨xs,ati,_,_,SK (by omega) hnn3 (by omega) hm,rfl,hw17.at (i:=1) rfl,Au hw17,hz ▸ hrow⟩
 have hnw2:z+1≤w2.heap.size:=AY hw1 hkw2
 have hSw2:=D8 hw1 [0,2] (i:=1) rfl rfl rfl rfl hkw2
 refine .inr ⟨_,_,rfl,hSw2, ?_⟩
 refine BM ?_
 intro w18 hw18
 exact .inr ⟨_,QN (by omega),rfl,Au hw18⟩
section
variable (z pr:Nat)
abbrev WB:=bk z #[pt pr] 115
end
theorem takeP(w:World)(pr:Nat)(F:Nat→Prop)(b:List Int)(at0:Nat)(hr:D5 w pr F b at0 0):Calls Tryz.prog 133 #[.agg #[.pointer (some ⟨pr,0,none⟩)],.func (.func 134) #[] #[]] w fun e w'=>YV w pr F b (Hr b (Nz b) at0) 67 2 BR.cells e w':=by
 obtain⟨z,hz⟩:∃ z,z=w.heap.size:=⟨_,rfl⟩
 refine BA (args:=[.agg #[pt pr],.func (.func 134) #[] #[]]) 20 ⟨w,z,[(old F w),(CG pr F b at0 0)]⟩ Tryz.func133 rfl (by kernel_rfl) (by kernel_rfl) (hz ▸ H8 hr) ?_
 have hB:=hr.Ou;have hlen:=hr.len;have hat:=hr.le
 refine Cc [0,1] [(0,.agg #[pt pr]),(1,.func (.func 134) #[] #[])] ?_
 refine q_c 6 1 [] [[o0,o0],[(a1 2)]] [Qb z] [(1,.func (.func 134) #[] #[]),(2,pt z),(7,.agg #[pt pr])] ⟨w,z+1,[(old F w),(CG pr F b at0 0),(WB z pr)]⟩ rfl ⟨rfl,Ae⟩ ?_
 refine DT [] [] 125 #[.agg #[pt pr]] (some 8) Ae ?_
 intro w1 hw1
 have hlew1:=D5.le (hw1.at (i:=1) (c:=(CG pr F b at0 0)) rfl)
 refine(Vp w1 pr F b at0 (hw1.at (i:=1) rfl)).mono ?_
 rintro e w2 (⟨hqw2,rfl,hRw2,hkw2⟩ | ⟨hqw2,rfl,hkw2⟩)
 ·have hvbw2:=J7 hB at0
  obtain⟨n3,hnn3⟩:∃ n:Nat,(gd b at0)=(n:Int):=⟨_,(Int.toNat_of_nonneg hvbw2.1).symm⟩;rw[hnn3]
  obtain⟨hnw2,hSw2⟩:=DJ hw1 (i:=1) rfl hRw2 hkw2
  have hnw2':z+1≤w2.heap.size:=hnw2
  refine .inl ⟨_,_,rfl,hSw2, ?_⟩
  refine Bv 12 0 [] [[o0],[o0],[o0,o0]] [] [(1,.func (.func 134) #[] #[]),(2,pt z),(6,.slice none 0 0),(9,Aa n3),(10,i6 0)] rfl Ae ?_
  refine N8 z 67 2 BR.cells ?_
  refine DI (fun m a w'=>∃ (n5:Nat) (i:Nat) (xs:List BR) (ati:Nat) (aL:Option Addr) (cL:Nat),m=n3 - i∧w2.heap.size≤n5∧(i≤n3)∧(many (Nz b) i (at0+1) = .ok xs ati)∧St 20 [(1,.func (.func 134) #[] #[]),(2,pt z),(6,.slice aL xs.length cL),(9,Aa n3),(10,Aa i)] [] ⟨w,n5,[(old F w),(CG pr F b ati 0),(WB z pr),(BB z 67 2 BR.cells (.slice aL xs.length cL) xs)]⟩ a w') (n3 - 0) ?_ ?_
  ·intro a w' hs;exact⟨w2.heap.size,0,([]),(at0+1),none,0,rfl,Nat.le_refl _,Nat.zero_le _,rfl,hs⟩
  rintro m a w' ⟨n5,i,xs,ati,aL,cL,rfl,hn4,hki,hm,hs⟩
  refine(?_:G Tryz.prog 20 [(1,.func (.func 134) #[] #[]),(2,pt z),(6,.slice aL xs.length cL),(9,Aa n3),(10,Aa i)] [] ⟨w,n5,[(old F w),(CG pr F b ati 0),(WB z pr),(BB z 67 2 BR.cells (.slice aL xs.length cL) xs)]⟩ _ _ _) a w' hs
  clear hs a w'
  have hxl:=Om hm
  refine Dl ?_
  by_cases h6:(i:Int)<(n3:Int)
  ·refine A8 10 3 [1] [[oT],[o0,o0,(a1 2)]] [BT ((i:Int)<(n3:Int)),Qb z] [(1,.func (.func 134) #[] #[]),(2,pt z),(9,Aa n3),(10,Aa i),(12,.slice aL xs.length cL),(13,.func (.func 134) #[] #[]),(14,.agg #[pt pr])] rfl ⟨bt,rfl,Ae⟩ ?_
   refine DT [] [] 134 #[.agg #[pt pr]] (some 15) Ae ?_
   intro w7 hw7
   have hlew7:=D5.le (hw7.at (i:=1) (c:=(CG pr F b ati 0)) rfl)
   refine(port_r w7 pr F b ati (hw7.at (i:=1) rfl)).mono ?_
   rintro e w11 (⟨x8,n9,hxw11,rfl,hRw11,hkw11⟩ | ⟨n10,hxw11,rfl,hkw11⟩)
   ·have hrngw11:=portAt_rng hB hxw11
    obtain⟨hnw11,hSw11⟩:=DJ hw7 (i:=1) rfl hRw11 hkw11
    have hnw11':n5≤w11.heap.size:=hnw11
    refine .inl ⟨_,_,rfl,hSw11, ?_⟩
    refine EG 0 1 [] [[o0]] [] [(1,.func (.func 134) #[] #[]),(2,pt z),(9,Aa n3),(10,Aa i),(12,.slice aL xs.length cL),(16,.slice (some ⟨w11.heap.size,0,none⟩) 1 1)] ⟨w,w11.heap.size+1,[(old F w),(CG pr F b n9 0),(WB z pr),(BB z 67 2 BR.cells (.slice aL xs.length cL) xs),(.blk w11.heap.size (.cells #[i6 x8.Channel,.bool x8.Source] 67 (0,0)) true)]⟩ rfl Ae ?_
    refine QG z 3 4 xs [(⟨x8.Channel,x8.Source⟩:BR)] BR.cells 67 2 16 (.slice aL xs.length cL) w11.heap.size 1 1 #[i6 x8.Channel,.bool x8.Source] 67 (0,0) true (some 17) (by simp only[List.length_cons,List.length_nil];omega) (show z≤w11.heap.size+1 by omega) (fun ax12 cp13 n14 (hn15:w11.heap.size+1≤n14) => ?_)
    refine Bv 5 0 [] [[o0],[(ov (i6 ((i+1:Nat):Int))),o0]] [Wr ((i:Int)+1) (((i+1:Nat):Int))] [(1,.func (.func 134) #[] #[]),(2,pt z),(9,Aa n3),(10,i6 ((i+1:Nat):Int)),(6,.slice ax12 ((xs++[(⟨x8.Channel,x8.Source⟩:BR)]).length) cp13)] rfl ⟨Dk,Ae⟩ ?_
    refine C9 [0,1,2,3] [(old F w),(CG pr F b n9 0),(WB z pr),(BB z 67 2 BR.cells (.slice ax12 ((xs++[(⟨x8.Channel,x8.Source⟩:BR)]).length) cp13) (xs++[(⟨x8.Channel,x8.Source⟩:BR)]))] rfl rfl ?_
    refine Cb [1,2,6,9,10] [(1,.func (.func 134) #[] #[]),(2,pt z),(6,.slice ax12 ((xs++[(⟨x8.Channel,x8.Source⟩:BR)]).length) cp13),(9,Aa n3),(10,i6 ((i+1:Nat):Int))] ?_
    refine CS (fun a w' hs=>⟨n3 - (i+1),by omega,n14,(i+1),(xs++[(⟨x8.Channel,x8.Source⟩:BR)]),n9,ax12,cp13,rfl,by omega,by omega,Ox hm hxw11,hs⟩)
   have hnw11:n5≤w11.heap.size:=AY hw7 hkw11
   have hSw11:=D8 hw7 [0,2,3] (i:=1) rfl rfl rfl rfl hkw11
   refine .inr ⟨_,_,rfl,hSw11, ?_⟩
   refine BM ?_
   intro w16 hw16
   exact .inr ⟨_,SN (by omega) hnn3 (by omega) hm hxw11,rfl,Au hw16⟩
  refine A8 15 0 [0] [[oF],[o0,o0]] [BF ((i:Int)<(n3:Int))] [(4,.slice aL xs.length cL)] rfl ⟨bf,Ae⟩ ?_
  refine AP [] [] (.slice aL xs.length cL) Ae ?_
  intro w17 hw17
  have hrow:=hw17.at (i:=3) (c:=(BB z 67 2 BR.cells (.slice aL xs.length cL) xs)) rfl
  exact .inl ⟨xs,ati,_,_,SK (by omega) hnn3 (by omega) hm,rfl,hw17.at (i:=1) rfl,Au hw17,hz ▸ hrow⟩
 have hnw2:z+1≤w2.heap.size:=AY hw1 hkw2
 have hSw2:=D8 hw1 [0,2] (i:=1) rfl rfl rfl rfl hkw2
 refine .inr ⟨_,_,rfl,hSw2, ?_⟩
 refine BM ?_
 intro w18 hw18
 exact .inr ⟨_,QN (by omega),rfl,Au hw18⟩
section
variable (z pr:Nat)
abbrev WU:=bk z #[pt pr] 115
end
theorem takeC(w:World)(pr:Nat)(F:Nat→Prop)(b:List Int)(at0:Nat)(hr:D5 w pr F b at0 0):Calls Tryz.prog 102 #[.agg #[.pointer (some ⟨pr,0,none⟩)],.func (.func 103) #[] #[]] w fun e w'=>YV w pr F b (Hr b (Gv b) at0) 49 3 AQ.cells e w':=by
 obtain⟨z,hz⟩:∃ z,z=w.heap.size:=⟨_,rfl⟩
 refine BA (args:=[.agg #[pt pr],.func (.func 103) #[] #[]]) 20 ⟨w,z,[(old F w),(CG pr F b at0 0)]⟩ Tryz.func102 rfl (by kernel_rfl) (by kernel_rfl) (hz ▸ H8 hr) ?_
 have hB:=hr.Ou;have hlen:=hr.len;have hat:=hr.le
 refine Cc [0,1] [(0,.agg #[pt pr]),(1,.func (.func 103) #[] #[])] ?_
 refine q_c 6 1 [] [[o0,o0],[(a1 2)]] [Qb z] [(1,.func (.func 103) #[] #[]),(2,pt z),(7,.agg #[pt pr])] ⟨w,z+1,[(old F w),(CG pr F b at0 0),(WU z pr)]⟩ rfl ⟨rfl,Ae⟩ ?_
 refine DT [] [] 125 #[.agg #[pt pr]] (some 8) Ae ?_
 intro w1 hw1
 have hlew1:=D5.le (hw1.at (i:=1) (c:=(CG pr F b at0 0)) rfl)
 refine(Vp w1 pr F b at0 (hw1.at (i:=1) rfl)).mono ?_
 rintro e w2 (⟨hqw2,rfl,hRw2,hkw2⟩ | ⟨hqw2,rfl,hkw2⟩)
 ·have hvbw2:=J7 hB at0
  obtain⟨n3,hnn3⟩:∃ n:Nat,(gd b at0)=(n:Int):=⟨_,(Int.toNat_of_nonneg hvbw2.1).symm⟩;rw[hnn3]
  obtain⟨hnw2,hSw2⟩:=DJ hw1 (i:=1) rfl hRw2 hkw2
  have hnw2':z+1≤w2.heap.size:=hnw2
  refine .inl ⟨_,_,rfl,hSw2, ?_⟩
  refine Bv 12 0 [] [[o0],[o0],[o0,o0]] [] [(1,.func (.func 103) #[] #[]),(2,pt z),(6,.slice none 0 0),(9,Aa n3),(10,i6 0)] rfl Ae ?_
  refine N8 z 49 3 AQ.cells ?_
  refine DI (fun m a w'=>∃ (n5:Nat) (i:Nat) (xs:List AQ) (ati:Nat) (aL:Option Addr) (cL:Nat),m=n3 - i∧w2.heap.size≤n5∧(i≤n3)∧(many (Gv b) i (at0+1) = .ok xs ati)∧St 20 [(1,.func (.func 103) #[] #[]),(2,pt z),(6,.slice aL xs.length cL),(9,Aa n3),(10,Aa i)] [] ⟨w,n5,[(old F w),(CG pr F b ati 0),(WU z pr),(BB z 49 3 AQ.cells (.slice aL xs.length cL) xs)]⟩ a w') (n3 - 0) ?_ ?_
  ·intro a w' hs;exact⟨w2.heap.size,0,([]),(at0+1),none,0,rfl,Nat.le_refl _,Nat.zero_le _,rfl,hs⟩
  rintro m a w' ⟨n5,i,xs,ati,aL,cL,rfl,hn4,hki,hm,hs⟩
  refine(?_:G Tryz.prog 20 [(1,.func (.func 103) #[] #[]),(2,pt z),(6,.slice aL xs.length cL),(9,Aa n3),(10,Aa i)] [] ⟨w,n5,[(old F w),(CG pr F b ati 0),(WU z pr),(BB z 49 3 AQ.cells (.slice aL xs.length cL) xs)]⟩ _ _ _) a w' hs
  clear hs a w'
  have hxl:=Om hm
  refine Dl ?_
  by_cases h6:(i:Int)<(n3:Int)
  ·refine A8 10 3 [1] [[oT],[o0,o0,(a1 2)]] [BT ((i:Int)<(n3:Int)),Qb z] [(1,.func (.func 103) #[] #[]),(2,pt z),(9,Aa n3),(10,Aa i),(12,.slice aL xs.length cL),(13,.func (.func 103) #[] #[]),(14,.agg #[pt pr])] rfl ⟨bt,rfl,Ae⟩ ?_
   refine DT [] [] 103 #[.agg #[pt pr]] (some 15) Ae ?_
   intro w7 hw7
   have hlew7:=D5.le (hw7.at (i:=1) (c:=(CG pr F b ati 0)) rfl)
   refine(channel_r w7 pr F b ati (hw7.at (i:=1) rfl)).mono ?_
   rintro e w11 (⟨x8,n9,hxw11,rfl,hRw11,hkw11⟩ | ⟨n10,hxw11,rfl,hkw11⟩)
   ·have hrngw11:=chanAt_rng hB hxw11
    obtain⟨hnw11,hSw11⟩:=DJ hw7 (i:=1) rfl hRw11 hkw11
    have hnw11':n5≤w11.heap.size:=hnw11
    refine .inl ⟨_,_,rfl,hSw11, ?_⟩
    refine EG 0 1 [] [[o0]] [] [(1,.func (.func 103) #[] #[]),(2,pt z),(9,Aa n3),(10,Aa i),(12,.slice aL xs.length cL),(16,.slice (some ⟨w11.heap.size,0,none⟩) 1 1)] ⟨w,w11.heap.size+1,[(old F w),(CG pr F b n9 0),(WU z pr),(BB z 49 3 AQ.cells (.slice aL xs.length cL) xs),(.blk w11.heap.size (.cells #[i6 x8.Kind,i6 x8.Words,i6 x8.Dj] 49 (0,0)) true)]⟩ rfl Ae ?_
    refine QG z 3 4 xs [(⟨x8.Kind,x8.Words,x8.Dj⟩:AQ)] AQ.cells 49 3 24 (.slice aL xs.length cL) w11.heap.size 1 1 #[i6 x8.Kind,i6 x8.Words,i6 x8.Dj] 49 (0,0) true (some 17) (by simp only[List.length_cons,List.length_nil];omega) (show z≤w11.heap.size+1 by omega) (fun ax12 cp13 n14 (hn15:w11.heap.size+1≤n14) => ?_)
    refine Bv 5 0 [] [[o0],[(ov (i6 ((i+1:Nat):Int))),o0]] [Wr ((i:Int)+1) (((i+1:Nat):Int))] [(1,.func (.func 103) #[] #[]),(2,pt z),(9,Aa n3),(10,i6 ((i+1:Nat):Int)),(6,.slice ax12 ((xs++[(⟨x8.Kind,x8.Words,x8.Dj⟩:AQ)]).length) cp13)] rfl ⟨Dk,Ae⟩ ?_
    refine C9 [0,1,2,3] [(old F w),(CG pr F b n9 0),(WU z pr),(BB z 49 3 AQ.cells (.slice ax12 ((xs++[(⟨x8.Kind,x8.Words,x8.Dj⟩:AQ)]).length) cp13) (xs++[(⟨x8.Kind,x8.Words,x8.Dj⟩:AQ)]))] rfl rfl ?_
    refine Cb [1,2,6,9,10] [(1,.func (.func 103) #[] #[]),(2,pt z),(6,.slice ax12 ((xs++[(⟨x8.Kind,x8.Words,x8.Dj⟩:AQ)]).length) cp13),(9,Aa n3),(10,i6 ((i+1:Nat):Int))] ?_
    refine CS (fun a w' hs=>⟨n3 - (i+1),by omega,n14,(i+1),(xs++[(⟨x8.Kind,x8.Words,x8.Dj⟩:AQ)]),n9,ax12,cp13,rfl,by omega,by omega,Ox hm hxw11,hs⟩)
   have hnw11:n5≤w11.heap.size:=AY hw7 hkw11
   have hSw11:=D8 hw7 [0,2,3] (i:=1) rfl rfl rfl rfl hkw11
   refine .inr ⟨_,_,rfl,hSw11, ?_⟩
   refine BM ?_
   intro w16 hw16
   exact .inr ⟨_,SN (by omega) hnn3 (by omega) hm hxw11,rfl,Au hw16⟩
  refine A8 15 0 [0] [[oF],[o0,o0]] [BF ((i:Int)<(n3:Int))] [(4,.slice aL xs.length cL)] rfl ⟨bf,Ae⟩ ?_
  refine AP [] [] (.slice aL xs.length cL) Ae ?_
  intro w17 hw17
  have hrow:=hw17.at (i:=3) (c:=(BB z 49 3 AQ.cells (.slice aL xs.length cL) xs)) rfl
  exact .inl ⟨xs,ati,_,_,SK (by omega) hnn3 (by omega) hm,rfl,hw17.at (i:=1) rfl,Au hw17,hz ▸ hrow⟩
 have hnw2:z+1≤w2.heap.size:=AY hw1 hkw2
 have hSw2:=D8 hw1 [0,2] (i:=1) rfl rfl rfl rfl hkw2
 refine .inr ⟨_,_,rfl,hSw2, ?_⟩
 refine BM ?_
 intro w18 hw18
 exact .inr ⟨_,QN (by omega),rfl,Au hw18⟩
theorem core_r(w:World)(pr:Nat)(F:Nat→Prop)(b:List Int)(at0:Nat)(hr:D5 w pr F b at0 0):Calls Tryz.prog 99 #[.agg #[.pointer (some ⟨pr,0,none⟩)]] w fun e w'=>YV w pr F b (Hr b (MI b) at0) 52 3 A7.cells e w':=by
 obtain⟨z,hz⟩:∃ z,z=w.heap.size:=⟨_,rfl⟩
 refine BA (args:=[.agg #[pt pr]]) 5 ⟨w,z,[(old F w),(CG pr F b at0 0)]⟩ Tryz.func99 rfl (by kernel_rfl) (by kernel_rfl) (hz ▸ H8 hr) ?_
 have hB:=hr.Ou;have hlen:=hr.len;have hat:=hr.le
 refine Cc [0] [(0,.agg #[pt pr])] ?_
 refine q_c 6 1 [] [[o0,o0],[(a1 2)]] [Qb z] [(3,.agg #[pt pr])] ⟨w,z+1,[(old F w),(CG pr F b at0 0),(bk z #[pt pr] 115)]⟩ rfl ⟨rfl,Ae⟩ ?_
 refine DT [] [] 126 #[.agg #[pt pr],.func (.func 127) #[] #[]] (some 4) Ae ?_
 intro w1 hw1
 have hlew1:=D5.le (hw1.at (i:=1) (c:=(CG pr F b at0 0)) rfl)
 refine(takeW w1 pr F b at0 (hw1.at (i:=1) rfl)).mono ?_
 rintro e w7 (⟨x2,n3,ax5,cp6,hxw7,rfl,hRw7,hkw7,how7⟩ | ⟨n4,hxw7,rfl,hkw7⟩)
 ·obtain⟨hnw7,hSw7⟩:=Xa hw1 (i:=1) rfl hRw7 hkw7 how7 z (show z≤z+1 by omega)
  have hnw7':z+1≤w7.heap.size:=hnw7
  have hllw7:=(QS hB hxw7).1
  refine .inl ⟨_,_,rfl,hSw7, ?_⟩
  refine Bv 3 0 [] [[o0]] [] [(2,.slice ax5 x2.length cp6)] rfl Ae ?_
  refine AP [] [] (.slice ax5 x2.length cp6) Ae ?_
  intro w8 hw8
  have hrow:=hw8.at (i:=3) (c:=(BB z 52 3 A7.cells (.slice ax5 x2.length cp6) x2)) rfl
  exact .inl ⟨_,_,_,_,hxw7,rfl,hw8.at (i:=1) rfl,Au hw8,hz ▸ hrow⟩
 have hnw7:z+1≤w7.heap.size:=AY hw1 hkw7
 have hSw7:=D8 hw1 [0,2] (i:=1) rfl rfl rfl rfl hkw7
 refine .inr ⟨_,_,rfl,hSw7, ?_⟩
 refine BM ?_
 intro w9 hw9
 exact .inr ⟨_,hxw7,rfl,Au hw9⟩
def Step{α:Type}(bad:Bool)(a0:Nat)(r:PR α)(bd:Bool)(a:Nat)(x:α):Prop:=(bad=true∧bd=true∧a=a0)∨(bad=false∧bd=false∧r = .ok x a)∨(bad=false∧bd=true∧r = .no a)
theorem Step.bind{α β:Type}{bad bd bd2:Bool}{a0 a a2:Nat}{r:PR α}{x:α}{f:α→Nat→PR β}{y:β}(h:Step bad a0 r bd a x)(h2:Step bd a (f x a) bd2 a2 y):Step bad a0 (r.bind f) bd2 a2 y:=by
 rcases h with⟨e1,e2,e3⟩ | ⟨e1,e2,e3⟩ | ⟨e1,e2,e3⟩ <;> subst e1 <;> subst e2
 ·subst e3
  rcases h2 with⟨-,g2,g3⟩ | ⟨g1, -⟩ | ⟨g1, -⟩
  ·exact .inl ⟨rfl,g2,g3⟩
  ·cases g1
  cases g1
 ·subst e3
  rcases h2 with⟨g1, -⟩ | ⟨-,g2,g3⟩ | ⟨-,g2,g3⟩
  ·cases g1
  ·exact .inr (.inl ⟨rfl,g2,g3⟩)
  exact .inr (.inr ⟨rfl,g2,g3⟩)
 subst e3
 rcases h2 with⟨-,g2,g3⟩ | ⟨g1, -⟩ | ⟨g1, -⟩
 ·subst g3;exact .inr (.inr ⟨rfl,g2,rfl⟩)
 ·cases g1
 cases g1
theorem Step.map{α β:Type}{bad bd:Bool}{a0 a:Nat}{r:PR α}{x:α}{g:α→β}(h:Step bad a0 r bd a x):Step bad a0 (r.bind fun x a=> .ok (g x) a) bd a (g x):=h.bind (by
 cases bd
 ·exact .inr (.inl ⟨rfl,rfl,rfl⟩)
 exact .inl ⟨rfl,rfl,rfl⟩)
def Yy{α:Type}(bd1:Bool)(a1:Nat)(one:Nat→PR α)(i:Nat)(bd:Bool)(a:Nat)(xs:List α):Prop:=(bd1=true∧bd=true∧a=a1)∨(bd1=false∧bd=false∧many one i a1 = .ok xs a)∨(bd1=false∧bd=true∧∀ k,i≤k→many one k a1 = .no a)
theorem Yy.more{α:Type}{bd1 bd:Bool}{a1 a a2 i:Nat}{one:Nat→PR α}{xs:List α}{x:α}(h:Yy bd1 a1 one i false a xs)(hx:Step false a (one a) bd a2 x):Yy bd1 a1 one (i+1) bd a2 (xs++[x]):=by
 rcases h with⟨-,e, -⟩ | ⟨e1, -,h⟩ | ⟨-,e, -⟩
 ·cases e
 ·rcases hx with⟨e, -⟩ | ⟨-,e,h2⟩ | ⟨-,e,h2⟩
  ·cases e
  ·exact .inr (.inl ⟨e1,e,Ox h h2⟩)
  exact .inr (.inr ⟨e1,e,fun k hk=>Xb h h2 k (by omega)⟩)
 cases e
theorem Yy.done{α:Type}{b:List Int}{bad bd1 bd:Bool}{a0 a1 a i n:Nat}{one:Nat→PR α}{xs:List α}(h1:Step bad a0 (byteAt b a0) bd1 a1 (n:Int))(h:Yy bd1 a1 one i bd a xs)(hi:i=n∨(bd=true∧i≤n)):Step bad a0 (Hr b one a0) bd a xs:=by
 unfold Hr
 refine h1.bind ?_
 rw[Int.toNat_natCast]
 rcases h with⟨e1,e2,e3⟩ | ⟨e1,e2,h⟩ | ⟨e1,e2,h⟩
 ·exact .inl ⟨e1,e2,e3⟩
 ·rcases hi with hi | ⟨hb, -⟩
  ·exact .inr (.inl ⟨e1,e2,by rw[←hi];exact h⟩)
  rw[hb]at e2;cases e2
 exact .inr (.inr ⟨e1,e2,h n (by omega)⟩)
def TU(f:Nat→Ch):Prop:=(∀ z z',(f z).key=(f z').key)∧(∀ z z' w,z≤z'→(f z').holds w→(f z).holds w)∧(∀ z,(f z).stable)∧∀ z w b,(f z).holds w→(f z).F b→z≤b
theorem Vk{α:Type}(e:TypeId)(sz:Nat)(cells:α→List Value)(v:Value)(xs:List α):TU (fun z=>BB z e sz cells v xs) :=
 ⟨fun _ _=>rfl,fun _ _ _ hz h=>Zm h hz,fun _=>Gx _ _ _ _ _ _,fun _ _ b h hb=>row_new h b hb⟩
theorem Zaf{α:Type}(e:TypeId)(sz:Nat)(cells:α→List Value)(hs:List (Sl α)):TU (fun z=>Ed z e sz cells hs) :=
 ⟨fun _ _=>rfl,fun _ _ _ hz h=>fam_low h hz,fun _=>VR _ _ _ _ _,fun _ _ b h hb=>fam_new h b hb⟩
def Made(w w':World)(fs:List (Nat→Ch)):Prop:=(∀ z,z≤w.heap.size→Sat ⟨w,w'.heap.size,fs.map (· z)⟩ w')∧∀ z,∀ d∈fs.map (· z),∀ b,d.F b→w.heap.size≤b
theorem Vd{w w':World}{fs:List (Nat→Ch)}(hL:∀ f∈fs,TU f)(h:Sat ⟨w,w'.heap.size,fs.map (· w.heap.size)⟩ w'):Made w w' fs:=by
 refine⟨fun z hz => ?_,fun z d hd b hb => ?_⟩
 ·refine h.low (fs.map (· z)) ?_ ?_
  ·rw[List.map_map,List.map_map]
   exact List.map_congr_left (fun f hf=>(hL f hf).1 _ _)
  intro c hc
  obtain⟨f,hf,rfl⟩:=List.mem_map.1 hc
  exact⟨(hL f hf).2.1 _ _ _ hz (h.all _ (List.mem_map_of_mem hf)),(hL f hf).2.2.1 _⟩
 obtain⟨f,hf,rfl⟩:=List.mem_map.1 hd
 have hkey:(f z).F=(f w.heap.size).F:=congrArg Prod.fst ((hL f hf).1 z w.heap.size)
 have hb':(f z).F b:=hb
 rw[hkey]at hb'
 exact(hL f hf).2.2.2 w.heap.size w' b (h.all _ (List.mem_map_of_mem hf)) hb'
theorem XF{A:AW}{w w':World}{i pr:Nat}{F:Nat→Prop}{b:List Int}{at0 at':Nat}{fl0 fl:Int}{fs:List (Nat→Ch)}(h:Sat A w)(hi:A.σ[i]? = some (CG pr F b at0 fl0))(hR:D5 w' pr F b at' fl)(hk:BH F w w')(hM:Made w w' fs)(z:Nat)(hz:z≤A.n):A.n≤w'.heap.size∧Sat { A with n:=w'.heap.size,σ:=A.σ.set i (CG pr F b at' fl)++fs.map (· z) } w' :=
 ⟨AY h hk,h.turnMade hi rfl rfl hk hR (RF _ _ _ _ _) (fun _ h=>h) (hM.1 z (by rw[h.size];exact hz)) (hM.2 z)⟩
def ZaD{α β:Type}(w:World)(pr:Nat)(F:Nat→Prop)(b:List Int)(r:PR β)(pl:α→β)(val:α→Value)(fs:α→List (Nat→Ch))(e:Ending)(w':World):Prop :=
 (∃ x a,r = .ok (pl x) a∧e = .returned (val x)∧D5 w' pr F b a 0∧BH F w w'∧Made w w' (fs x))∨(∃ p,r = .no p∧e = .panicked (Ve 110 p)∧BH F w w')
def UK(x:Sl (Sl A7)):List (Nat→Ch):=[fun z=>BB z 50 1 (fun x:Sl A7=>[Sl.val x]) (.slice x.a x.xs.length x.cap) x.xs,fun z=>Ed z 52 3 A7.cells x.xs]
theorem Zbh(x:Sl (Sl A7)):∀ f∈UK x,TU f:=by
 simp only[UK,List.mem_cons,List.not_mem_nil,or_false,forall_eq_or_imp,forall_eq]
 exact⟨Vk _ _ _ _ _,Zaf _ _ _ _⟩
structure YE where
 Name:ByteArray
 Entry:Int
 Dz:Int
 AU:Int
 Dx:Int
 AZ:Int
 Ah:List AX
 Aq:List BR
def PX(x:Ap):YE:=⟨x.Name,x.Entry,x.Dz,x.AU,x.Dx,x.AZ,x.Ah.xs,x.Aq.xs⟩
def partAt(b:List Int)(a:Nat):PR YE:=(RS b a).bind fun nm a=>(numAt b a).bind fun n1 a=>(numAt b a).bind fun n2 a=>(numAt b a).bind fun n3 a=>(numAt b a).bind fun n4 a=>(numAt b a).bind fun n5 a=>(Hr b (Oc b) a).bind fun rs a=>(Hr b (Nz b) a).bind fun ps a=> .ok ⟨nm,n1,n2,n3,n4,n5,rs,ps⟩ a
def Zd(x:Ap):List (Nat→Ch):=[fun z=>BB z 64 4 AX.cells (.slice x.Ah.a x.Ah.xs.length x.Ah.cap) x.Ah.xs,fun z=>BB z 67 2 BR.cells (.slice x.Aq.a x.Aq.xs.length x.Aq.cap) x.Aq.xs]
theorem part_low(x:Ap):∀ f∈Zd x,TU f:=by
 simp only[Zd,List.mem_cons,List.not_mem_nil,or_false,forall_eq_or_imp,forall_eq]
 exact⟨Vk _ _ _ _ _,Vk _ _ _ _ _⟩
def SH(x:Sl Ap):List (Nat→Ch):=[fun z=>BB z 57 8 Ap.cells (.slice x.a x.xs.length x.cap) x.xs,fun z=>Ed z 64 4 AX.cells (x.xs.map Ap.Ah),fun z=>Ed z 67 2 BR.cells (x.xs.map Ap.Aq)]
theorem Zau(x:Sl Ap):∀ f∈SH x,TU f:=by
 simp only[SH,List.mem_cons,List.not_mem_nil,or_false,forall_eq_or_imp,forall_eq]
 exact⟨Vk _ _ _ _ _,Zaf _ _ _ _,Zaf _ _ _ _⟩
structure IW where
 Frames:Int
 DD:Int
 Kernel:Int
 Room:Int
 Ar:List (List A7)
 Ac:List YE
 Aj:List AQ
def GK(c:Ai):IW:=⟨c.Frames,c.DD,c.Kernel,c.Room,c.Ar.xs.map Sl.xs,c.Ac.xs.map PX,c.Aj.xs⟩
def LH(b:List Int)(a:Nat):PR Unit:=if a+4≤b.length∧AB b a 4=826493762 then .ok () (a+4)else .no a
theorem GM{b:List Int}{a:Nat}(h:a+4≤b.length∧AB b a 4=826493762):LH b a = .ok () (a+4):=if_pos h
theorem markAt_no{b:List Int}{a:Nat}(h:¬ (a+4≤b.length∧AB b a 4=826493762)):LH b a = .no a:=if_neg h
def Gu(b:List Int)(a:Nat):PR IW:=(numAt b a).bind fun n1 a=>(numAt b a).bind fun n2 a=>(numAt b a).bind fun n3 a=>(numAt b a).bind fun n4 a=>(Hr b (Hr b (MI b)) a).bind fun cs a=>(Hr b (partAt b) a).bind fun ps a=>(Hr b (Gv b) a).bind fun hs a=> .ok ⟨n1,n2,n3,n4,cs,ps,hs⟩ a
def Q4(c:Ai):List (Nat→Ch):=UK c.Ar++SH c.Ac++[fun z=>BB z 49 3 AQ.cells (.slice c.Aj.a c.Aj.xs.length c.Aj.cap) c.Aj.xs]
theorem Zba(c:Ai):∀ f∈Q4 c,TU f:=by
 intro f hf
 rcases List.mem_append.1 hf with hf | hf
 ·rcases List.mem_append.1 hf with hf | hf
  ·exact Zbh _ f hf
  exact Zau _ f hf
 rw[List.mem_singleton.1 hf];exact Vk _ _ _ _ _
theorem V9{α β:Type}{g:α→β}{xs:List α}{x:α}:(xs++[x]).map g=xs.map g++[g x]:=by rw[List.map_append];rfl
section
variable (z pr:Nat)(aL:Option Addr)(xs:List (Sl A7))(cL:Nat)
abbrev UR:=bk z #[pt pr] 115
abbrev YF:=BB z 50 1 (fun x:Sl A7=>[Sl.val x]) (.slice aL xs.length cL) xs
end
theorem takeWs(w:World)(pr:Nat)(F:Nat→Prop)(b:List Int)(at0:Nat)(hr:D5 w pr F b at0 0):Calls Tryz.prog 98 #[.agg #[.pointer (some ⟨pr,0,none⟩)],.func (.func 99) #[] #[]] w fun e w'=>ZaD w pr F b (Hr b (Hr b (MI b)) at0) (fun x=>x.xs.map Sl.xs) (fun x=> .slice x.a x.xs.length x.cap) UK e w':=by
 obtain⟨z,hz⟩:∃ z,z=w.heap.size:=⟨_,rfl⟩
 refine BA (args:=[.agg #[pt pr],.func (.func 99) #[] #[]]) 20 ⟨w,z,[(old F w),(CG pr F b at0 0)]⟩ Tryz.func98 rfl (by kernel_rfl) (by kernel_rfl) (hz ▸ H8 hr) ?_
 have hB:=hr.Ou;have hlen:=hr.len;have hat:=hr.le
 refine Cc [0,1] [(0,.agg #[pt pr]),(1,.func (.func 99) #[] #[])] ?_
 refine q_c 6 1 [] [[o0,o0],[(a1 2)]] [Qb z] [(1,.func (.func 99) #[] #[]),(2,pt z),(7,.agg #[pt pr])] ⟨w,z+1,[(old F w),(CG pr F b at0 0),(UR z pr)]⟩ rfl ⟨rfl,Ae⟩ ?_
 refine DT [] [] 125 #[.agg #[pt pr]] (some 8) Ae ?_
 intro w1 hw1
 have hlew1:=D5.le (hw1.at (i:=1) (c:=(CG pr F b at0 0)) rfl)
 refine(Vp w1 pr F b at0 (hw1.at (i:=1) rfl)).mono ?_
 rintro e w2 (⟨hqw2,rfl,hRw2,hkw2⟩ | ⟨hqw2,rfl,hkw2⟩)
 ·have hvbw2:=J7 hB at0
  obtain⟨n3,hnn3⟩:∃ n:Nat,(gd b at0)=(n:Int):=⟨_,(Int.toNat_of_nonneg hvbw2.1).symm⟩;rw[hnn3]
  obtain⟨hnw2,hSw2⟩:=DJ hw1 (i:=1) rfl hRw2 hkw2
  have hnw2':z+1≤w2.heap.size:=hnw2
  refine .inl ⟨_,_,rfl,hSw2, ?_⟩
  refine Bv 12 0 [] [[o0],[o0],[o0,o0]] [] [(1,.func (.func 99) #[] #[]),(2,pt z),(6,.slice none 0 0),(9,Aa n3),(10,i6 0)] rfl Ae ?_
  refine Rx z 52 3 A7.cells ?_
  refine N8 z 50 1 (fun x:Sl A7=>[Sl.val x]) ?_
  refine DI (fun m a w'=>∃ (n5:Nat) (i:Nat) (xs:List (Sl A7)) (ati:Nat) (aL:Option Addr) (cL:Nat),m=n3 - i∧w2.heap.size≤n5∧(i≤n3)∧(many (Hr b (MI b)) i (at0+1) = .ok (xs.map Sl.xs) ati)∧St 20 [(1,.func (.func 99) #[] #[]),(2,pt z),(6,.slice aL xs.length cL),(9,Aa n3),(10,Aa i)] [] ⟨w,n5,[(old F w),(CG pr F b ati 0),(UR z pr),(Ed z 52 3 A7.cells xs),(YF z aL xs cL)]⟩ a w') (n3 - 0) ?_ ?_
  ·intro a w' hs;exact⟨w2.heap.size,0,([]),(at0+1),none,0,rfl,Nat.le_refl _,Nat.zero_le _,rfl,hs⟩
  rintro m a w' ⟨n5,i,xs,ati,aL,cL,rfl,hn4,hki,hm,hs⟩
  refine(?_:G Tryz.prog 20 [(1,.func (.func 99) #[] #[]),(2,pt z),(6,.slice aL xs.length cL),(9,Aa n3),(10,Aa i)] [] ⟨w,n5,[(old F w),(CG pr F b ati 0),(UR z pr),(Ed z 52 3 A7.cells xs),(YF z aL xs cL)]⟩ _ _ _) a w' hs
  clear hs a w'
  have hxl:=Om hm;rw[List.length_map]at hxl
  refine Dl ?_
  by_cases h6:(i:Int)<(n3:Int)
  ·refine A8 10 3 [1] [[oT],[o0,o0,(a1 2)]] [BT ((i:Int)<(n3:Int)),Qb z] [(1,.func (.func 99) #[] #[]),(2,pt z),(9,Aa n3),(10,Aa i),(12,.slice aL xs.length cL),(13,.func (.func 99) #[] #[]),(14,.agg #[pt pr])] rfl ⟨bt,rfl,Ae⟩ ?_
   refine DT [] [] 99 #[.agg #[pt pr]] (some 15) Ae ?_
   intro w7 hw7
   have hlew7:=D5.le (hw7.at (i:=1) (c:=(CG pr F b ati 0)) rfl)
   refine(core_r w7 pr F b ati (hw7.at (i:=1) rfl)).mono ?_
   rintro e w13 (⟨x8,n9,ax11,cp12,hxw13,rfl,hRw13,hkw13,how13⟩ | ⟨n10,hxw13,rfl,hkw13⟩)
   ·obtain⟨hnw13,hSw13⟩:=Xa hw7 (i:=1) rfl hRw13 hkw13 how13 z (show z≤n5 by omega)
    have hnw13':n5≤w13.heap.size:=hnw13
    have hllw13:=(QS hB hxw13).1
    refine .inl ⟨_,_,rfl,hSw13, ?_⟩
    refine EG 0 1 [] [[o0]] [] [(1,.func (.func 99) #[] #[]),(2,pt z),(9,Aa n3),(10,Aa i),(12,.slice aL xs.length cL),(16,.slice (some ⟨w13.heap.size,0,none⟩) 1 1)] ⟨w,w13.heap.size+1,[(old F w),(CG pr F b n9 0),(UR z pr),(Ed z 52 3 A7.cells xs),(YF z aL xs cL),(BB z 52 3 A7.cells (.slice ax11 x8.length cp12) x8),(.blk w13.heap.size (.cells #[.slice ax11 x8.length cp12] 50 (0,0)) true)]⟩ rfl Ae ?_
    refine QG z 4 6 xs [(⟨ax11,cp12,x8⟩:Sl A7)] (fun x:Sl A7=>[Sl.val x]) 50 1 24 (.slice aL xs.length cL) w13.heap.size 1 1 #[.slice ax11 x8.length cp12] 50 (0,0) true (some 17) (by simp only[List.length_cons,List.length_nil];omega) (show z≤w13.heap.size+1 by omega) (fun ax14 cp15 n16 (hn17:w13.heap.size+1≤n16) => ?_)
    refine Bv 5 0 [] [[o0],[(ov (i6 ((i+1:Nat):Int))),o0]] [Wr ((i:Int)+1) (((i+1:Nat):Int))] [(1,.func (.func 99) #[] #[]),(2,pt z),(9,Aa n3),(10,i6 ((i+1:Nat):Int)),(6,.slice ax14 ((xs++[(⟨ax11,cp12,x8⟩:Sl A7)]).length) cp15)] rfl ⟨Dk,Ae⟩ ?_
    refine Ux 3 5 [0,1,2,4,6] [(old F w),(CG pr F b n9 0),(UR z pr),(BB z 50 1 (fun x:Sl A7=>[Sl.val x]) (.slice ax14 ((xs++[(⟨ax11,cp12,x8⟩:Sl A7)]).length) cp15) (xs++[(⟨ax11,cp12,x8⟩:Sl A7)])),(.blk w13.heap.size (.cells #[.slice ax11 x8.length cp12] 50 (0,0)) true)] ?_
    refine C9 [0,1,2,5,3] [(old F w),(CG pr F b n9 0),(UR z pr),(Ed z 52 3 A7.cells (xs++[⟨ax11,cp12,x8⟩])),(BB z 50 1 (fun x:Sl A7=>[Sl.val x]) (.slice ax14 ((xs++[(⟨ax11,cp12,x8⟩:Sl A7)]).length) cp15) (xs++[(⟨ax11,cp12,x8⟩:Sl A7)]))] rfl rfl ?_
    refine Cb [1,2,6,9,10] [(1,.func (.func 99) #[] #[]),(2,pt z),(6,.slice ax14 ((xs++[(⟨ax11,cp12,x8⟩:Sl A7)]).length) cp15),(9,Aa n3),(10,i6 ((i+1:Nat):Int))] ?_
    refine CS (fun a w' hs=>⟨n3 - (i+1),by omega,n16,(i+1),(xs++[(⟨ax11,cp12,x8⟩:Sl A7)]),n9,ax14,cp15,rfl,by omega,by omega,by rw[V9];exact Ox hm hxw13,hs⟩)
   have hnw13:n5≤w13.heap.size:=AY hw7 hkw13
   have hSw13:=D8 hw7 [0,2,3,4] (i:=1) rfl rfl rfl rfl hkw13
   refine .inr ⟨_,_,rfl,hSw13, ?_⟩
   refine BM ?_
   intro w18 hw18
   exact .inr ⟨_,SN (by omega) hnn3 (by omega) hm hxw13,rfl,Au hw18⟩
  refine A8 15 0 [0] [[oF],[o0,o0]] [BF ((i:Int)<(n3:Int))] [(4,.slice aL xs.length cL)] rfl ⟨bf,Ae⟩ ?_
  refine AP [] [] (.slice aL xs.length cL) Ae ?_
  intro w19 hw19
  exact .inl ⟨⟨aL,cL,xs⟩,ati,SK (by omega) hnn3 (by omega) hm,rfl,hw19.at (i:=1) rfl,Au hw19,Vd (fs:=UK ⟨aL,cL,xs⟩) (Zbh ⟨aL,cL,xs⟩) (by have hP:=hw19.pick [4,3] (σ':=[(YF z aL xs cL),(Ed z 52 3 A7.cells xs)]) rfl rfl;rw[hw19.size];exact hz ▸ hP)⟩
 have hnw2:z+1≤w2.heap.size:=AY hw1 hkw2
 have hSw2:=D8 hw1 [0,2] (i:=1) rfl rfl rfl rfl hkw2
 refine .inr ⟨_,_,rfl,hSw2, ?_⟩
 refine BM ?_
 intro w20 hw20
 exact .inr ⟨_,QN (by omega),rfl,Au hw20⟩
section
variable (w2:World)(b:List Int)(at0 z pr:Nat)
abbrev qdz5_0:Ch:= .blk w2.heap.size (.cells #[.string (strOf (GH b (at0+4) (AB b at0 4).toNat)),i6 (AB b (at0+4+(AB b at0 4).toNat) 4),i6 (AB b (at0+4+(AB b at0 4).toNat+4) 4),i6 (AB b (at0+4+(AB b at0 4).toNat+4+4) 4),i6 (AB b (at0+4+(AB b at0 4).toNat+4+4+4) 4),i6 (AB b (at0+4+(AB b at0 4).toNat+4+4+4+4) 4),.slice none 0 0,.slice none 0 0] 57 (0,0)) true
abbrev qdz5_1:Ch:= .blk w2.heap.size (.cells #[.string (strOf (GH b (at0+4) (AB b at0 4).toNat)),i6 (AB b (at0+4+(AB b at0 4).toNat) 4),i6 (AB b (at0+4+(AB b at0 4).toNat+4) 4),i6 (AB b (at0+4+(AB b at0 4).toNat+4+4) 4),i6 0,i6 0,.slice none 0 0,.slice none 0 0] 57 (0,0)) true
abbrev OZ:=bk (z+1) #[.string (⟨#[]⟩),i6 0,i6 0,i6 0,i6 0,i6 0,.slice none 0 0,.slice none 0 0] 57
abbrev MJ:=bk z #[pt pr] 115
abbrev qdz5_4:=(20,i6 (AB b (at0+4+(AB b at0 4).toNat+4+4+4+4) 4))
abbrev qdz5_5:=(18,i6 (AB b (at0+4+(AB b at0 4).toNat+4+4+4) 4))
abbrev WJ:=(13,i6 (AB b (at0+4+(AB b at0 4).toNat+4+4) 4))
abbrev Y7:=(11,i6 (AB b (at0+4+(AB b at0 4).toNat+4) 4))
abbrev Yr:=(9,i6 (AB b (at0+4+(AB b at0 4).toNat) 4))
abbrev Jf:=(3,pt w2.heap.size)
abbrev Ho:=(2,pt (z+1))
end
theorem partition_r(w:World)(pr:Nat)(F:Nat→Prop)(b:List Int)(at0:Nat)(hr:D5 w pr F b at0 0):Calls Tryz.prog 101 #[.agg #[.pointer (some ⟨pr,0,none⟩)]] w fun e w'=>ZaD w pr F b (partAt b at0) PX (fun x=> .agg (Ap.arr x)) Zd e w':=by
 obtain⟨z,hz⟩:∃ z,z=w.heap.size:=⟨_,rfl⟩
 refine BA (args:=[.agg #[pt pr]]) 30 ⟨w,z,[(old F w),(CG pr F b at0 0)]⟩ Tryz.func101 rfl (by kernel_rfl) (by kernel_rfl) (hz ▸ H8 hr) ?_
 have hB:=hr.Ou;have hlen:=hr.len;have hat:=hr.le
 refine Cc [0] [(0,.agg #[pt pr])] ?_
 refine q_c 6 2 [] [[o0,o0],[(a1 2),o0]] [Qb z] [(1,pt z),(Ho z),(4,.agg #[pt pr]),(5,.func (.func 129) #[] #[pt z])] ⟨w,z+2,[(old F w),(CG pr F b at0 0),(MJ z pr),(OZ z)]⟩ rfl ⟨rfl,Ae⟩ ?_
 refine DT [] [] 128 #[.agg #[pt pr],.func (.func 129) #[] #[pt z]] (some 6) Ae ?_
 intro w1 hw1
 refine(it_text w1 pr F b at0 (hw1.at (i:=1) rfl) z (Rn hw1 (i:=1) (j:=2) rfl rfl (by decide)).1 (Rn hw1 (i:=1) (j:=2) rfl rfl (by decide)).2).mono ?_
 rintro e w2 (⟨hqw2,rfl,hRw2,hkw2⟩ | ⟨hqw2,rfl,hkw2⟩)
 ·obtain⟨hnw2,hSw2⟩:=DJ hw1 (i:=1) rfl hRw2 hkw2
  have hnw2':z+2≤w2.heap.size:=hnw2
  refine .inl ⟨_,_,rfl,hSw2, ?_⟩
  refine EG 3 0 [] [[o0,o0,(an 8 4)]] [Qb w2.heap.size,Qb w2.heap.size,Qb w2.heap.size,Qb w2.heap.size,Qb w2.heap.size,Qb w2.heap.size,Qb w2.heap.size,Qb w2.heap.size] [(1,pt z),(Ho z),(Jf w2)] ⟨w,w2.heap.size+1,[(old F w),(CG pr F b (at0+4+(AB b at0 4).toNat) 0),(MJ z pr),(OZ z),(.blk w2.heap.size (.cells #[.string (strOf (GH b (at0+4) (AB b at0 4).toNat)),i6 0,i6 0,i6 0,i6 0,i6 0,.slice none 0 0,.slice none 0 0] 57 (0,0)) true)]⟩ rfl ⟨rfl,rfl,rfl,rfl,rfl,rfl,rfl,rfl,Ae⟩ ?_
  refine DK 11 [0,2] [(old F w),(MJ z pr)] rfl rfl ?_
  refine CP [(0,(a1 1)),(2,(a1 1)),(4,(a1 1))] [1,2,3,8,10,12] [Qb z,Qb z,Qb z] [true,false,true,false,true,false,false,false,false,false,false,false] [(1,pt z),(Ho z),(Jf w2),(8,.agg #[pt pr]),(10,.agg #[pt pr]),(12,.agg #[pt pr])] ⟨rfl,rfl,rfl,Ae⟩ ?_
  refine AV 1 ?_
  refine EO [] [] 58 #[.agg #[pt pr]] (some 9) (by as_aux_lemma=>kernel_rfl) rfl rfl Ae ?_
  intro w3 hw3
  have hlew3:=D5.le (hw3.at (i:=1) (c:=(CG pr F b (at0+4+(AB b at0 4).toNat) 0)) rfl)
  refine(EN w3 pr F b (at0+4+(AB b at0 4).toNat) (hw3.at (i:=1) rfl)).mono ?_
  rintro e w4 (⟨hqw4,rfl,hRw4,hkw4⟩ | ⟨hqw4,rfl,hkw4⟩)
  ·have hvbw4:=Eo hB (at0+4+(AB b at0 4).toNat)
   obtain⟨hnw4,hSw4⟩:=DJ hw3 (i:=1) rfl hRw4 hkw4
   have hnw4':w2.heap.size+1≤w4.heap.size:=hnw4
   have hs5:=hSw4
   refine .inl ⟨_,_,rfl,hs5,.inr (fun c hc=>hs5.all c (by first | exact hc | exact Cm (is:=[0,2]) rfl c hc)), ?_⟩
   refine CB [1,2,3,10,12,9] [(1,pt z),(Ho z),(Jf w2),(10,.agg #[pt pr]),(12,.agg #[pt pr]),(Yr b at0)] ?_
   refine CP [(6,o0)] [1,2,3,10,12,9,14] [] [true,true,true,false,true,false,true,false,false,false,false,false] [(1,pt z),(Ho z),(Jf w2),(10,.agg #[pt pr]),(12,.agg #[pt pr]),(Yr b at0),(14,.pointer (some ⟨w2.heap.size,1,none⟩))] Ae ?_
   refine AV 3 ?_
   refine EO [] [] 58 #[.agg #[pt pr]] (some 11) (by as_aux_lemma=>kernel_rfl) rfl rfl Ae ?_
   intro w6 hw6
   have hlew6:=D5.le (hw6.at (i:=1) (c:=(CG pr F b (at0+4+(AB b at0 4).toNat+4) 0)) rfl)
   refine(EN w6 pr F b (at0+4+(AB b at0 4).toNat+4) (hw6.at (i:=1) rfl)).mono ?_
   rintro e w7 (⟨hqw7,rfl,hRw7,hkw7⟩ | ⟨hqw7,rfl,hkw7⟩)
   ·have hvbw7:=Eo hB (at0+4+(AB b at0 4).toNat+4)
    obtain⟨hnw7,hSw7⟩:=DJ hw6 (i:=1) rfl hRw7 hkw7
    have hnw7':w4.heap.size≤w7.heap.size:=hnw7
    have hs8:=hSw7
    refine .inl ⟨_,_,rfl,hs8,.inr (fun c hc=>hs8.all c (by first | exact hc | exact Cm (is:=[0,2]) rfl c hc)), ?_⟩
    refine CB [1,2,3,12,9,14,11] [(1,pt z),(Ho z),(Jf w2),(12,.agg #[pt pr]),(Yr b at0),(14,.pointer (some ⟨w2.heap.size,1,none⟩)),(Y7 b at0)] ?_
    refine AV 5 ?_
    refine EO [] [] 58 #[.agg #[pt pr]] (some 13) (by as_aux_lemma=>kernel_rfl) rfl rfl Ae ?_
    intro w9 hw9
    have hlew9:=D5.le (hw9.at (i:=1) (c:=(CG pr F b (at0+4+(AB b at0 4).toNat+4+4) 0)) rfl)
    refine(EN w9 pr F b (at0+4+(AB b at0 4).toNat+4+4) (hw9.at (i:=1) rfl)).mono ?_
    rintro e w10 (⟨hqw10,rfl,hRw10,hkw10⟩ | ⟨hqw10,rfl,hkw10⟩)
    ·have hvbw10:=Eo hB (at0+4+(AB b at0 4).toNat+4+4)
     obtain⟨hnw10,hSw10⟩:=DJ hw9 (i:=1) rfl hRw10 hkw10
     have hnw10':w7.heap.size≤w10.heap.size:=hnw10
     have hs11:=hSw10
     refine .inl ⟨_,_,rfl,hs11,.inr (fun c hc=>hs11.all c (by first | exact hc | exact Cm (is:=[0,2]) rfl c hc)), ?_⟩
     refine CB [1,2,3,9,14,11,13] [(1,pt z),(Ho z),(Jf w2),(Yr b at0),(14,.pointer (some ⟨w2.heap.size,1,none⟩)),(Y7 b at0),(WJ b at0)] ?_
     refine AV 7 ?_
     refine Bi (a1 4) [1,2,3,11,13] [Qb w2.heap.size] [(1,pt z),(Ho z),(Jf w2),(Y7 b at0),(WJ b at0)] ⟨w,w10.heap.size,[(old F w),(CG pr F b (at0+4+(AB b at0 4).toNat+4+4+4) 0),(MJ z pr),(OZ z),(.blk w2.heap.size (.cells #[.string (strOf (GH b (at0+4) (AB b at0 4).toNat)),i6 (AB b (at0+4+(AB b at0 4).toNat) 4),i6 0,i6 0,i6 0,i6 0,.slice none 0 0,.slice none 0 0] 57 (0,0)) true)]⟩ [0,2] ⟨rfl,Ae⟩ (.inr rfl) ?_
     refine CP [(8,o0)] [1,2,3,11,13,15] [] (Dy 9 3) [(1,pt z),(Ho z),(Jf w2),(Y7 b at0),(WJ b at0),(15,.pointer (some ⟨w2.heap.size,2,none⟩))] Ae ?_
     refine AV 9 ?_
     refine Bi (a1 4) [1,2,3,13] [Qb w2.heap.size] [(1,pt z),(Ho z),(Jf w2),(WJ b at0)] ⟨w,w10.heap.size,[(old F w),(CG pr F b (at0+4+(AB b at0 4).toNat+4+4+4) 0),(MJ z pr),(OZ z),(.blk w2.heap.size (.cells #[.string (strOf (GH b (at0+4) (AB b at0 4).toNat)),i6 (AB b (at0+4+(AB b at0 4).toNat) 4),i6 (AB b (at0+4+(AB b at0 4).toNat+4) 4),i6 0,i6 0,i6 0,.slice none 0 0,.slice none 0 0] 57 (0,0)) true)]⟩ [0,2] ⟨rfl,Ae⟩ (.inr rfl) ?_
     refine CP [(10,o0)] [1,2,3,13,16] [] (Dy 11 1) [(1,pt z),(Ho z),(Jf w2),(WJ b at0),(16,.pointer (some ⟨w2.heap.size,3,none⟩))] Ae ?_
     refine AV 11 ?_
     refine Bi (a1 4) [1,2,3] [Qb w2.heap.size] [(1,pt z),(Ho z),(Jf w2)] ⟨w,w10.heap.size,[(old F w),(CG pr F b (at0+4+(AB b at0 4).toNat+4+4+4) 0),(MJ z pr),(OZ z),(qdz5_1 w2 b at0)]⟩ [] ⟨rfl,Ae⟩ (.inl rfl) ?_
     refine D9 12 [0,1,2,3,4] [(old F w),(CG pr F b (at0+4+(AB b at0 4).toNat+4+4+4) 0),(MJ z pr),(OZ z),(qdz5_1 w2 b at0)] rfl rfl ?_
     refine CQ ?_
     refine Cb [1,2,3] [(1,pt z),(Ho z),(Jf w2)] ?_
     refine FX <| Dl <| DK 7 [0,2] [(old F w),(MJ z pr)] rfl rfl ?_
     refine CP [(0,(a1 1)),(2,(a1 1))] [1,2,3,17,19] [Qb z,Qb z] [true,false,true,false,false,false,false,false] [(1,pt z),(Ho z),(Jf w2),(17,.agg #[pt pr]),(19,.agg #[pt pr])] ⟨rfl,rfl,Ae⟩ ?_
     refine AV 1 ?_
     refine EO [] [] 58 #[.agg #[pt pr]] (some 18) (by as_aux_lemma=>kernel_rfl) rfl rfl Ae ?_
     intro w12 hw12
     have hlew12:=D5.le (hw12.at (i:=1) (c:=(CG pr F b (at0+4+(AB b at0 4).toNat+4+4+4) 0)) rfl)
     refine(EN w12 pr F b (at0+4+(AB b at0 4).toNat+4+4+4) (hw12.at (i:=1) rfl)).mono ?_
     rintro e w13 (⟨hqw13,rfl,hRw13,hkw13⟩ | ⟨hqw13,rfl,hkw13⟩)
     ·have hvbw13:=Eo hB (at0+4+(AB b at0 4).toNat+4+4+4)
      obtain⟨hnw13,hSw13⟩:=DJ hw12 (i:=1) rfl hRw13 hkw13
      have hnw13':w10.heap.size≤w13.heap.size:=hnw13
      have hs14:=hSw13
      refine .inl ⟨_,_,rfl,hs14,.inr (fun c hc=>hs14.all c (by first | exact hc | exact Cm (is:=[0,2]) rfl c hc)), ?_⟩
      refine CB [1,2,3,19,18] [(1,pt z),(Ho z),(Jf w2),(19,.agg #[pt pr]),(qdz5_5 b at0)] ?_
      refine CP [(4,o0)] [1,2,3,19,18,21] [] [true,true,true,false,true,false,false,false] [(1,pt z),(Ho z),(Jf w2),(19,.agg #[pt pr]),(qdz5_5 b at0),(21,.pointer (some ⟨w2.heap.size,4,none⟩))] Ae ?_
      refine AV 3 ?_
      refine EO [] [] 58 #[.agg #[pt pr]] (some 20) (by as_aux_lemma=>kernel_rfl) rfl rfl Ae ?_
      intro w15 hw15
      have hlew15:=D5.le (hw15.at (i:=1) (c:=(CG pr F b (at0+4+(AB b at0 4).toNat+4+4+4+4) 0)) rfl)
      refine(EN w15 pr F b (at0+4+(AB b at0 4).toNat+4+4+4+4) (hw15.at (i:=1) rfl)).mono ?_
      rintro e w16 (⟨hqw16,rfl,hRw16,hkw16⟩ | ⟨hqw16,rfl,hkw16⟩)
      ·have hvbw16:=Eo hB (at0+4+(AB b at0 4).toNat+4+4+4+4)
       obtain⟨hnw16,hSw16⟩:=DJ hw15 (i:=1) rfl hRw16 hkw16
       have hnw16':w13.heap.size≤w16.heap.size:=hnw16
       have hs17:=hSw16
       refine .inl ⟨_,_,rfl,hs17,.inr (fun c hc=>hs17.all c (by first | exact hc | exact Cm (is:=[0,2]) rfl c hc)), ?_⟩
       refine CB [1,2,3,18,21,20] [(1,pt z),(Ho z),(Jf w2),(qdz5_5 b at0),(21,.pointer (some ⟨w2.heap.size,4,none⟩)),(qdz5_4 b at0)] ?_
       refine AV 5 ?_
       refine Bi (a1 4) [1,2,3,20] [Qb w2.heap.size] [(1,pt z),(Ho z),(Jf w2),(qdz5_4 b at0)] ⟨w,w16.heap.size,[(old F w),(CG pr F b (at0+4+(AB b at0 4).toNat+4+4+4+4+4) 0),(MJ z pr),(OZ z),(.blk w2.heap.size (.cells #[.string (strOf (GH b (at0+4) (AB b at0 4).toNat)),i6 (AB b (at0+4+(AB b at0 4).toNat) 4),i6 (AB b (at0+4+(AB b at0 4).toNat+4) 4),i6 (AB b (at0+4+(AB b at0 4).toNat+4+4) 4),i6 (AB b (at0+4+(AB b at0 4).toNat+4+4+4) 4),i6 0,.slice none 0 0,.slice none 0 0] 57 (0,0)) true)]⟩ [0,2] ⟨rfl,Ae⟩ (.inr rfl) ?_
       refine CP [(6,o0)] [1,2,3,20,22] [] (Dy 7 1) [(1,pt z),(Ho z),(Jf w2),(qdz5_4 b at0),(22,.pointer (some ⟨w2.heap.size,5,none⟩))] Ae ?_
       refine AV 7 ?_
       refine Bi (a1 4) [1,2,3] [Qb w2.heap.size] [(1,pt z),(Ho z),(Jf w2)] ⟨w,w16.heap.size,[(old F w),(CG pr F b (at0+4+(AB b at0 4).toNat+4+4+4+4+4) 0),(MJ z pr),(OZ z),(qdz5_0 w2 b at0)]⟩ [] ⟨rfl,Ae⟩ (.inl rfl) ?_
       refine D9 8 [0,1,2,3,4] [(old F w),(CG pr F b (at0+4+(AB b at0 4).toNat+4+4+4+4+4) 0),(MJ z pr),(OZ z),(qdz5_0 w2 b at0)] rfl rfl ?_
       refine CQ ?_
       refine Nl 3 1 [] [[(a1 2)]] [Qb z] [(1,pt z),(Ho z),(Jf w2),(23,.agg #[pt pr])] rfl ⟨rfl,Ae⟩ ?_
       refine DT [] [] 131 #[.agg #[pt pr],.func (.func 132) #[] #[]] (some 24) Ae ?_
       intro w18 hw18
       have hlew18:=D5.le (hw18.at (i:=1) (c:=(CG pr F b (at0+4+(AB b at0 4).toNat+4+4+4+4+4) 0)) rfl)
       refine(takeR w18 pr F b (at0+4+(AB b at0 4).toNat+4+4+4+4+4) (hw18.at (i:=1) rfl)).mono ?_
       rintro e w24 (⟨x19,n20,ax22,cp23,hxw24,rfl,hRw24,hkw24,how24⟩ | ⟨n21,hxw24,rfl,hkw24⟩)
       ·obtain⟨hnw24,hSw24⟩:=Xa hw18 (i:=1) rfl hRw24 hkw24 how24 z (show z≤w16.heap.size by omega)
        have hnw24':w16.heap.size≤w24.heap.size:=hnw24
        have hllw24:=(QS hB hxw24).1
        refine .inl ⟨_,_,rfl,hSw24, ?_⟩
        refine EG 4 1 [] [[o0,(a1 4)],[(a1 2)]] [Qb w2.heap.size,Qb z] [(Ho z),(Jf w2),(26,.agg #[pt pr])] ⟨w,w24.heap.size,[(old F w),(CG pr F b n20 0),(MJ z pr),(OZ z),(.blk w2.heap.size (.cells #[.string (strOf (GH b (at0+4) (AB b at0 4).toNat)),i6 (AB b (at0+4+(AB b at0 4).toNat) 4),i6 (AB b (at0+4+(AB b at0 4).toNat+4) 4),i6 (AB b (at0+4+(AB b at0 4).toNat+4+4) 4),i6 (AB b (at0+4+(AB b at0 4).toNat+4+4+4) 4),i6 (AB b (at0+4+(AB b at0 4).toNat+4+4+4+4) 4),.slice ax22 x19.length cp23,.slice none 0 0] 57 (0,0)) true),(BB z 64 4 AX.cells (.slice ax22 x19.length cp23) x19)]⟩ rfl ⟨rfl,rfl,Ae⟩ ?_
        refine DT [] [] 133 #[.agg #[pt pr],.func (.func 134) #[] #[]] (some 27) Ae ?_
        intro w25 hw25
        have hlew25:=D5.le (hw25.at (i:=1) (c:=(CG pr F b n20 0)) rfl)
        refine(takeP w25 pr F b n20 (hw25.at (i:=1) rfl)).mono ?_
        rintro e w31 (⟨x26,n27,ax29,cp30,hxw31,rfl,hRw31,hkw31,how31⟩ | ⟨n28,hxw31,rfl,hkw31⟩)
        ·obtain⟨hnw31,hSw31⟩:=Xa hw25 (i:=1) rfl hRw31 hkw31 how31 z (show z≤w24.heap.size by omega)
         have hnw31':w24.heap.size≤w31.heap.size:=hnw31
         have hllw31:=(QS hB hxw31).1
         refine .inl ⟨_,_,rfl,hSw31, ?_⟩
         refine EG 7 0 [] [[o0,(a1 4)],[(an 8 4),(an 8 3)]] [Qb w2.heap.size,Qb w2.heap.size,Qb w2.heap.size,Qb w2.heap.size,Qb w2.heap.size,Qb w2.heap.size,Qb w2.heap.size,Qb w2.heap.size,Qb w2.heap.size,Qb (z+1),Qb (z+1),Qb (z+1),Qb (z+1),Qb (z+1),Qb (z+1),Qb (z+1),Qb (z+1)] [(Ho z)] ⟨w,w31.heap.size,[(old F w),(CG pr F b n27 0),(MJ z pr),(bk (z+1) #[.string (strOf (GH b (at0+4) (AB b at0 4).toNat)),i6 (AB b (at0+4+(AB b at0 4).toNat) 4),i6 (AB b (at0+4+(AB b at0 4).toNat+4) 4),i6 (AB b (at0+4+(AB b at0 4).toNat+4+4) 4),i6 (AB b (at0+4+(AB b at0 4).toNat+4+4+4) 4),i6 (AB b (at0+4+(AB b at0 4).toNat+4+4+4+4) 4),.slice ax22 x19.length cp23,.slice ax29 x26.length cp30] 57),(.blk w2.heap.size (.cells #[.string (strOf (GH b (at0+4) (AB b at0 4).toNat)),i6 (AB b (at0+4+(AB b at0 4).toNat) 4),i6 (AB b (at0+4+(AB b at0 4).toNat+4) 4),i6 (AB b (at0+4+(AB b at0 4).toNat+4+4) 4),i6 (AB b (at0+4+(AB b at0 4).toNat+4+4+4) 4),i6 (AB b (at0+4+(AB b at0 4).toNat+4+4+4+4) 4),.slice ax22 x19.length cp23,.slice ax29 x26.length cp30] 57 (0,0)) true),(BB z 64 4 AX.cells (.slice ax22 x19.length cp23) x19),(BB z 67 2 BR.cells (.slice ax29 x26.length cp30) x26)]⟩ rfl ⟨rfl,rfl,rfl,rfl,rfl,rfl,rfl,rfl,rfl,rfl,rfl,rfl,rfl,rfl,rfl,rfl,rfl,Ae⟩ ?_
         refine AP [.at 3,.at 3,.at 3,.at 3,.at 3,.at 3,.at 3,.at 3] [Qb (z+1),Qb (z+1),Qb (z+1),Qb (z+1),Qb (z+1),Qb (z+1),Qb (z+1),Qb (z+1)] (.agg #[.string (strOf (GH b (at0+4) (AB b at0 4).toNat)),i6 (AB b (at0+4+(AB b at0 4).toNat) 4),i6 (AB b (at0+4+(AB b at0 4).toNat+4) 4),i6 (AB b (at0+4+(AB b at0 4).toNat+4+4) 4),i6 (AB b (at0+4+(AB b at0 4).toNat+4+4+4) 4),i6 (AB b (at0+4+(AB b at0 4).toNat+4+4+4+4) 4),.slice ax22 x19.length cp23,.slice ax29 x26.length cp30]) ⟨rfl,rfl,rfl,rfl,rfl,rfl,rfl,rfl,Ae⟩ ?_
         intro w32 hw32
         exact .inl ⟨(⟨(strOf (GH b (at0+4) (AB b at0 4).toNat)),(AB b (at0+4+(AB b at0 4).toNat) 4),(AB b (at0+4+(AB b at0 4).toNat+4) 4),(AB b (at0+4+(AB b at0 4).toNat+4+4) 4),(AB b (at0+4+(AB b at0 4).toNat+4+4+4) 4),(AB b (at0+4+(AB b at0 4).toNat+4+4+4+4) 4),⟨ax22,cp23,x19⟩,⟨ax29,cp30,x26⟩⟩:Ap),_,(by unfold partAt;rw[LY (by omega),PR.bind_ok,BP (by omega),PR.bind_ok,BP (by omega),PR.bind_ok,BP (by omega),PR.bind_ok,BP (by omega),PR.bind_ok,BP (by omega),PR.bind_ok,hxw24,PR.bind_ok,hxw31,PR.bind_ok];rfl),rfl,hw32.at (i:=1) rfl,Au hw32,Vd (fs:=Zd (⟨(strOf (GH b (at0+4) (AB b at0 4).toNat)),(AB b (at0+4+(AB b at0 4).toNat) 4),(AB b (at0+4+(AB b at0 4).toNat+4) 4),(AB b (at0+4+(AB b at0 4).toNat+4+4) 4),(AB b (at0+4+(AB b at0 4).toNat+4+4+4) 4),(AB b (at0+4+(AB b at0 4).toNat+4+4+4+4) 4),⟨ax22,cp23,x19⟩,⟨ax29,cp30,x26⟩⟩:Ap)) (part_low (⟨(strOf (GH b (at0+4) (AB b at0 4).toNat)),(AB b (at0+4+(AB b at0 4).toNat) 4),(AB b (at0+4+(AB b at0 4).toNat+4) 4),(AB b (at0+4+(AB b at0 4).toNat+4+4) 4),(AB b (at0+4+(AB b at0 4).toNat+4+4+4) 4),(AB b (at0+4+(AB b at0 4).toNat+4+4+4+4) 4),⟨ax22,cp23,x19⟩,⟨ax29,cp30,x26⟩⟩:Ap)) (by have hP:=hw32.pick [5,6] (σ':=[(BB z 64 4 AX.cells (.slice ax22 x19.length cp23) x19),(BB z 67 2 BR.cells (.slice ax29 x26.length cp30) x26)]) rfl rfl;rw[hw32.size];exact hz ▸ hP)⟩
        have hnw31:w24.heap.size≤w31.heap.size:=AY hw25 hkw31
        have hSw31:=D8 hw25 [0,2,3,4,5] (i:=1) rfl rfl rfl rfl hkw31
        refine .inr ⟨_,_,rfl,hSw31, ?_⟩
        refine BM ?_
        intro w33 hw33
        exact .inr ⟨_,(by unfold partAt;rw[LY (by omega),PR.bind_ok,BP (by omega),PR.bind_ok,BP (by omega),PR.bind_ok,BP (by omega),PR.bind_ok,BP (by omega),PR.bind_ok,BP (by omega),PR.bind_ok,hxw24,PR.bind_ok,hxw31,PR.Ey]),rfl,Au hw33⟩
       have hnw24:w16.heap.size≤w24.heap.size:=AY hw18 hkw24
       have hSw24:=D8 hw18 [0,2,3,4] (i:=1) rfl rfl rfl rfl hkw24
       refine .inr ⟨_,_,rfl,hSw24, ?_⟩
       refine BM ?_
       intro w34 hw34
       exact .inr ⟨_,(by unfold partAt;rw[LY (by omega),PR.bind_ok,BP (by omega),PR.bind_ok,BP (by omega),PR.bind_ok,BP (by omega),PR.bind_ok,BP (by omega),PR.bind_ok,BP (by omega),PR.bind_ok,hxw24,PR.Ey]),rfl,Au hw34⟩
      have hnw16:w13.heap.size≤w16.heap.size:=AY hw15 hkw16
      have hSw16:=D8 hw15 [0,2,3,4] (i:=1) rfl rfl rfl rfl hkw16
      refine .inr ⟨_,_,rfl,hSw16, ?_⟩
      refine BM ?_
      intro w35 hw35
      exact .inr ⟨_,(by unfold partAt;rw[LY (by omega),PR.bind_ok,BP (by omega),PR.bind_ok,BP (by omega),PR.bind_ok,BP (by omega),PR.bind_ok,BP (by omega),PR.bind_ok,ES (by omega),PR.Ey]),rfl,Au hw35⟩
     have hnw13:w10.heap.size≤w13.heap.size:=AY hw12 hkw13
     have hSw13:=D8 hw12 [0,2,3,4] (i:=1) rfl rfl rfl rfl hkw13
     refine .inr ⟨_,_,rfl,hSw13, ?_⟩
     refine BM ?_
     intro w36 hw36
     exact .inr ⟨_,(by unfold partAt;rw[LY (by omega),PR.bind_ok,BP (by omega),PR.bind_ok,BP (by omega),PR.bind_ok,BP (by omega),PR.bind_ok,ES (by omega),PR.Ey]),rfl,Au hw36⟩
    have hnw10:w7.heap.size≤w10.heap.size:=AY hw9 hkw10
    have hSw10:=D8 hw9 [0,2,3,4] (i:=1) rfl rfl rfl rfl hkw10
    refine .inr ⟨_,_,rfl,hSw10, ?_⟩
    refine BM ?_
    intro w37 hw37
    exact .inr ⟨_,(by unfold partAt;rw[LY (by omega),PR.bind_ok,BP (by omega),PR.bind_ok,BP (by omega),PR.bind_ok,ES (by omega),PR.Ey]),rfl,Au hw37⟩
   have hnw7:w4.heap.size≤w7.heap.size:=AY hw6 hkw7
   have hSw7:=D8 hw6 [0,2,3,4] (i:=1) rfl rfl rfl rfl hkw7
   refine .inr ⟨_,_,rfl,hSw7, ?_⟩
   refine BM ?_
   intro w38 hw38
   exact .inr ⟨_,(by unfold partAt;rw[LY (by omega),PR.bind_ok,BP (by omega),PR.bind_ok,ES (by omega),PR.Ey]),rfl,Au hw38⟩
  have hnw4:w2.heap.size+1≤w4.heap.size:=AY hw3 hkw4
  have hSw4:=D8 hw3 [0,2,3,4] (i:=1) rfl rfl rfl rfl hkw4
  refine .inr ⟨_,_,rfl,hSw4, ?_⟩
  refine BM ?_
  intro w39 hw39
  exact .inr ⟨_,(by unfold partAt;rw[LY (by omega),PR.bind_ok,ES (by omega),PR.Ey]),rfl,Au hw39⟩
 have hnw2:z+2≤w2.heap.size:=AY hw1 hkw2
 have hSw2:=D8 hw1 [0,2,3] (i:=1) rfl rfl rfl rfl hkw2
 refine .inr ⟨_,_,rfl,hSw2, ?_⟩
 refine BM ?_
 intro w40 hw40
 exact .inr ⟨_,(by unfold partAt;rw[textAt_no (by omega),PR.Ey]),rfl,Au hw40⟩
end Go.Proofs.YtekjfiegdpoajaaGreatDoor.Cf
