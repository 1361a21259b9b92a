/- R10f R12a R11a R11b R11c R11d R11e -/
import Derived.Test.YtjehjkipcaohpaaGreatT24
set_option maxHeartbeats 8000000
set_option linter.unusedVariables false
set_option linter.unusedSimpArgs false
set_option linter.constructorNameAsVariable false
namespace Go.Proofs.YtjehjkipcaohpaaGreat
section
open Go.RowKit
open La
set_option maxRecDepth 20000 in
theorem zhO {w0 w:World} {A:Option Addr} {c n:Nat} {m:List (List Int)} {za most budget:Int} (hM:Mat64 w0 A m) (hL:LLLed m) (h1:m.length=n) (hb0:0<=za) (hb1:za<=most) (hu0:0<=budget) (hu1:budget<=1000000) [hx:Ext w0 w]:
  Calls Tryz.prog 61 #[.slice A n c,.int .i64 za,.int .i64 most,.int .i64 budget] w (zz w (.int .i64 0)):=by
 have HR:=Zh (fun W (e:Ext w0 W)=>zg4 (w:=W) (c:=c) hM hL h1 hL.fits hL.bd);have c1:decide (za<0)=false:=by simp;omega
 have c2:decide (most<za)=false:=by simp;omega
 have c3:decide (budget<0)=false:=by simp;omega
 have c4:decide (1000000<budget)=false:=by simp;omega
 clear hM hL h1;go_enter Tryz.func61,Tryz.ntmps61;go_wp2_with (go_at_call 104;refine (HR.out _ Zi).mono ?_;rintro e w2 ⟨rfl,hs2⟩)
 go_ret;exact ⟨rfl,Step.of _ _⟩
theorem zoz {w0 w:World} {A:Option Addr} {c n:Nat} {m:List (List Int)} {za most budget:Int} (hM:Mat64 w0 A m) (hL:LLLed m) (h1:m.length=n) (hb0:za<0) [hx:Ext w0 w]:
  Calls Tryz.prog 61 #[.slice A n c,.int .i64 za,.int .i64 most,.int .i64 budget] w (zz w (.int .i64 1)):=by
 have HR:=Zh (fun W (e:Ext w0 W)=>zg4 (w:=W) (c:=c) hM hL h1 hL.fits hL.bd);have c1:decide (za<0)=true:=by simpa using hb0
 clear hM hL h1;go_enter Tryz.func61,Tryz.ntmps61;go_wp2_with (go_at_call 104;refine (HR.out _ Zi).mono ?_;rintro e w2 ⟨rfl,hs2⟩)
 go_ret;exact ⟨rfl,Step.of _ _⟩
def zbZ (w:World) (m:List (List Int)) (n:Nat) (za budget:Int) (e:Ending) (w':World):Prop:=
 (Z7 m za<=budget/\∃g,e= .returned (.tuple #[.slice (some ⟨g,0,none⟩) n n,.int .i64 0])/\Row w' g 3 .i64 (jo m za)/\w.heap.size<=g/\Step w w')∨(budget<Z7 m za/\e= .returned (.tuple #[.slice none 0 0,.int .i64 9])/\Step w w')
set_option maxRecDepth 20000 in
theorem zoA {w0 w:World} {A:Option Addr} {c n:Nat} {m:List (List Int)} {za budget:Int} (hM:Mat64 w0 A m) (hL:LLLed m) (h1:m.length=n) (hb:0<=za) (hb1:za<1073741824) (hu0:0<=budget) (hu1:budget<=1000000) [hx:Ext w0 w]:
  Calls Tryz.prog 35 #[.slice A n c,.int .i64 za,.int .i64 budget] w (zbZ w m n za budget):=by
 have hr:=ZF hL.red;have hn8:=hL.len8;have hn1:=hL.len1;have HAR:Hid (∀W,Ext w0 W->Calls Tryz.prog 61 #[.slice A n c,.int .i64 za,.int .i64 4611686018427387904,.int .i64 budget] W (zz W (.int .i64 0))):=Zh (fun W e=>zhO hM hL h1 hb (by omega) hu0 hu1);have HOF:Hid (∀W,Ext w0 W->Calls Tryz.prog 62 #[.slice A n c] W (za0 W m n)):=Zh (fun W e=>zbW hM hL h1);have hmk:=ja (P:=Tryz.prog) (k:= .i64) Tryz.underlying29 jL (by omega) (n:Int) (by omega) (by omega)
 simp only [Int.toNat_natCast] at hmk;have h0n:∀x∈List.replicate n (0:Int),0<=x:=fun x hx=>by rw [List.eq_of_mem_replicate hx];omega
 have hs0:(List.replicate n (0:Int)).sum=0:=by simp
 have zqp:=Qi hr hb;have HCN:Hid (∀(W:World) (SB DB:Option Addr) (sc dc g:Nat),FrV W m SB DB->Row W g 3 .i64 (List.replicate n 0)->Calls Tryz.prog 63 #[.agg #[.int .i64 n,.slice SB n sc,.slice DB (n+1) dc],.int .i64 za,.slice none 0 0,.slice (some ⟨g,0,none⟩) n n,.int .i64 budget] W (zac W m za budget (n-1) [] (List.replicate n 0) g)):=Zh (fun W SB DB sc dc g hF hR=>
  zoy hL h1 hb hb1 hu0 hu1 (n-1) W SB DB none sc dc 0 0 g [] _ (by omega) hF Ints.nil rfl (fun a ha=>by simp at ha) (by rw [h1] at zqp;exact zqp) hR (by simp) h0n (by rw [hs0];exact hu0))
 have e1:=zhE hr hb;have e2:=zhF hr hb;rw [h1] at e1 e2;have HT:Hid (Z7 m za=zE (ZJ m za (n-1) [])):=Zh e1;have HS:Hid (jo m za=Zk (List.replicate n 0) (ZJ m za (n-1) [])):=Zh e2;unfold zac at HCN;rw [hs0,Int.zero_add,<-HT.out,<-HS.out] at HCN;unfold zbZ;generalize Z7 m za=tot at*
 generalize jo m za=st at*
 clear hr hL h1 zqp e1 e2 HT HS h0n hs0 hM;obtain ⟨zs,hzs⟩:∃zs,zs=List.replicate n (0:Int):=⟨_,rfl⟩;have HZS:=Zh hzs;rw [<-hzs] at HCN;clear hzs;go_enter Tryz.func35,Tryz.ntmps35;go_wp2_with (first
  |(go_at_call 61;refine (HAR.out _ Zi).mono ?_;rintro e w1 ⟨rfl,hs1⟩)
  |(go_at_call 62;refine (HOF.out _ Zi).mono ?_;rintro e w2 ⟨SB,sc,DB,dc,rfl,hF,-,-,-,-,hs2⟩;have hR2:Row w2 w1.heap.size 3 .i64 zs:=(by rw [HZS.out];exact (Row.made w1 n .i64 3).ext Zi);have zqI:Ext w1 w2:=Zi;have zu5:Ext w w2:=Zi;have hws:w.heap.size<=w1.heap.size:=(Zi:Ext w w1).size)
  |(go_at_call 63;refine (HCN.out _ _ _ _ _ _ hF hR2).mono ?_;rintro e w6 ⟨ok,cs2,rfl,hO6,hR6,hl6,ht6,hf6⟩;have hx6:Ext w w6:=hO6.ext zu5 hws;have HR6:=Zh hR6;have HT6:=Zh ht6;have HF6:=Zh hf6;clear hR6 ht6 hf6 hO6;cases ok))
 ·go_ret2
  exact .inr ⟨HF6.out trivial,rfl,hx6.toStep⟩
 ·obtain ⟨h8,h9⟩:=HT6.out trivial;have h10:=HR6.out;rw [h8] at h10;go_ret2
  exact .inl ⟨h9,_,rfl,h10,hws,hx6.toStep⟩
theorem Grow.step {w w' w2:World} {zd:Nat} {e:TypeId} (h:Grow zd e w w') (h':Grow zd e w' w2):Grow zd e w w2:=⟨h.below.trans h'.below,fun k hk hne=>by
 have e1:=h.typed k hk hne;exact (h'.typed k (Nat.lt_of_lt_of_le hk h.below.size) (fun cs fr hh=>hne cs fr (by rw [<-e1];exact hh))).trans e1⟩
theorem Grow.ofx {w w':World} {zd:Nat} {e:TypeId} (h:Ext w w') (hb:zd<=w.heap.size):Grow zd e w w':=⟨h.below.mono hb,fun k hk _=>h.below.block k hk⟩
def zF (C:List (Int×Int)):List Value:=C.flatMap fun p=>[.int .i64 p.1,.int .i64 p.2]
theorem za3 (C D:List (Int×Int)):zF (C++D)=zF C++zF D:=by unfold zF;rw [List.flatMap_append]
def tK (m:List (List Int)) (b:Int) (k:Nat) (t:List Int) (q:Nat):List (Int×Int):=(List.range q).flatMap fun (j:Nat)=>tE m b k ((zj m b (k+1) t+(j:Int))::t)
theorem zb0 (m:List (List Int)) (b:Int) (k:Nat) (t:List Int) (q:Nat):tK m b k t (q+1)=tK m b k t q++tE m b k ((zj m b (k+1) t+(q:Int))::t):=by
 unfold tK;rw [List.range_succ,List.flatMap_append,List.flatMap_singleton]
theorem zoB (m:List (List Int)) (b:Int) (k:Nat) (t:List Int) {p q:Nat} (h:p<=q):(tK m b k t p).length<=(tK m b k t q).length:=by
 induction q with
 |zero=>obtain rfl:p=0:=by omega
        exact Zr
 |succ q ih=>
  rcases Zl p (q+1) with h1 |h1
  ·have :=ih (by omega);rw [zb0,List.length_append];omega
  ·obtain rfl:p=q+1:=by omega
   exact Zr
def tR (m:List (List Int)) (b:Int):Nat->List Int->List (Int×Int)
 |0,_=>[]
 |k+1,t=>tK m b k t (zH m b (k+1) t)
theorem zhP (m:List (List Int)) (b:Int) (k:Nat) (t:List Int):tE m b k t=(zj m b k t,zB m b k t)::tR m b k t:=by
 cases k with
 |zero=>rfl
 |succ k=>rfl
def zb1 (w:World) (zd n:Nat) (xs:List Value) (T:List (Int×Int)) (e:Ending) (w':World):Prop:=∃A c,e= .returned (.slice A (n+T.length) c)/\Own w' zd 64 2 A (n+T.length) c (xs++zF T)/\Grow zd 64 w w'
set_option maxRecDepth 20000 in
theorem zoC {m:List (List Int)} {n zd:Nat} {za:Int} (hL:LLLed m) (h1:m.length=n) (hb:0<=za) (hb1:za<1073741824) (k:Nat):
  ∀(w:World) (SB DB TA OA:Option Addr) (sc dc tc oc q len:Nat) (t:List Int) (xs:List Value),n=k+q+1->FrV w m SB DB->Ints w TA 2 .i64 t->t.length=q->(∀a∈t,-9223372036854775808<=a/\a<=9223372036854775807)->0<=left (ent m) za (k+1) t->Own w zd 64 2 OA len oc xs->zd<=w.heap.size->len+(tE m za k t).length<=4000000->
  Calls Tryz.prog 65 #[.agg #[.int .i64 n,.slice SB n sc,.slice DB (n+1) dc],.int .i64 za,.slice TA q tc,.slice OA len oc] w (zb1 w zd len xs (tE m za k t)):=by
 induction k using Nat.strongRecOn with
 |ind k ih=>
  intro w SB DB TA OA sc dc tc oc q len t xs hq hF hT htl htb h0 hO hbs hln;have IH:=Zh ih;clear ih;have hr:=ZF hL.red;have hn8:=hL.len8;have hkm:k<m.length:=by omega
  have htm:t.length=m.length-1-k:=by omega
  obtain ⟨v1,v2,v3,v4,v5,v6⟩:=zaZ hr hb hb1 hkm htm h0;have HIV:Hid (∀W,Ext w W->Calls Tryz.prog 108 #[.agg #[.int .i64 n,.slice SB n sc,.slice DB (n+1) dc],.int .i64 za,.slice TA q tc] W (zz W (.tuple #[.int .i64 (zj m za k t),.int .i64 (zB m za k t)]))):=Zh (fun W e=>
   zbY hF hL h1 hq hT htl htb (by omega) (by omega) h0 (by omega) (by omega) (by omega) (by omega))
  rw [zhP] at hln |-
  unfold zb1;obtain ⟨rest,hrs⟩:∃rest,rest=tR m za k t:=⟨_,rfl⟩;have HRS:=Zh hrs;rw [<-hrs] at hln |-
  obtain ⟨lo,hlo⟩:∃lo,lo=zj m za k t:=⟨_,rfl⟩;obtain ⟨hi,hhi⟩:∃hi,hi=zB m za k t:=⟨_,rfl⟩;have HLO:=Zh (And.intro hlo hhi);rw [<-hlo] at v1 v2 v3 v4 HIV hln |-
  rw [<-hhi] at v1 v2 v5 v6 HIV hln |-
  have HFV:=Zh hF;have HTV:=Zh hT;have HTB:=Zh htb;have H0:=Zh h0;have HH1:=Zh h1;have HTL:=Zh htl;have HQ:=Zh hq;have HO:=Zh hO;have hqn:q<n:=by omega
  have hn9:n<=8:=by omega
  simp only [List.length_cons] at hln;have ztQ:(((lo,hi)::rest).length)=rest.length+1:=rfl;have ztR:zF ((lo,hi)::rest)=[.int .i64 lo,.int .i64 hi]++zF rest:=rfl;rw [ztQ,ztR];clear hlo hhi h1 hkm hq htl hrs hF hT htb h0 hO hr htm ztQ ztR;go_enter Tryz.func65,Tryz.ntmps65;go_upto_region 3 with (first
   |(go_at_call 108;refine (HIV.out _ Zi).mono ?_;rintro e w1 ⟨rfl,hs1⟩;have hx1:Ext w w1:=Zi;have zsR:zd<=w1.heap.size:=Nat.le_trans hbs hx1.size)
   |(at_builtin;go_loud (refine zI _ rfl _ _ 58 rfl zd 64 (.agg #[.int .i64 0,.int .i64 0]) 2 16 Tryz.underlying58 jB rfl (by omega) (by omega) OA len oc _ rfl (HO.out.ext Zi) (some ⟨w1.heap.size,0,none⟩) 1 1 [.int .i64 lo,.int .i64 hi] rfl (Arr.new w1 64 #[.int .i64 lo,.int .i64 hi]) (by simp) (by simp [Value.oneCell']) (by omega) (by simp;omega) ?_);intro A2 c2 w2 zp7 hg))
  have HO2:=Zh zp7;have HG2:=Zh hg;have hfb:w2.heap[w.heap.size]? =some (.cells #[.int .i64 n,.slice SB n sc,.slice DB (n+1) dc] 89 (0,0)):=hg.heap (zg (Zi:Ext (w.alloc (.cells #[.int .i64 n,.slice SB n sc,.slice DB (n+1) dc] 89)) (w1.alloc (.cells #[.int .i64 lo,.int .i64 hi] 64))) (heap_alloc_new w _)) (by decide);have HFB:=Zh hfb;have HG0:Hid (Grow zd 64 w w2):=Zh ((Grow.ofx (Zi:Ext w (w1.alloc (.cells #[.int .i64 lo,.int .i64 hi] 64))) hbs).step hg)
  have zr8:zd<=w2.heap.size:=Nat.le_trans hbs HG0.out.below.size;have hx2:Ext w w2∨True:= .inr trivial;have hwl:w.heap.size<w2.heap.size:=zA hfb;have HFW:Hid (∀W,Grow zd 64 w2 W->W.heap[w.heap.size]? =some (.cells #[.int .i64 n,.slice SB n sc,.slice DB (n+1) dc] 89 (0,0))):=Zh (fun W h=>h.heap hfb (by decide));have HG2:=Zh HG0.out;clear zp7 hg hfb
  cases k with
  |zero=>
   have hb0:decide ((q:Int)+1<(n:Int))=false:=by have :=HQ.out;simp;omega
   obtain ⟨⟨f0,-,-⟩,-,-⟩:=qY (HFW.out w2 (Grow.ofx (Ext.refl _) zr8));obtain rfl:rest=[]:=HRS.out;go_wp2_with fail
   go_loopw [3,11] (fun s3 x wr=>s3= .slice A2 (len+1) c2/\x= .int .i64 lo/\Ext w2 wr) (fun _ _ _=>0)
   case atStart=>exact ⟨rfl,rfl,Zi⟩
   case round=>
    obtain ⟨rfl,rfl,hxq⟩:=hrel;have oW:Old w.heap.size w2:=⟨hwl⟩;have f1:wr.cell? ⟨w.heap.size,0,none⟩=some (.int .i64 n):=(zi w2).trans f0;go_wp2_with fail
    all_goals
     go_ret;refine ⟨A2,c2,?_,?_,HG0.out.step (Grow.ofx hxq zr8)⟩
     ·rfl
     ·have h3:=HO2.out.ext hxq;simpa [zF] using h3
  |succ k=>
   have hr:=ZF hL.red;have hq0:=HQ.out;have hmj:=HH1.out;have htq:=HTL.out;have hkm:k+1<m.length:=by omega
   have htm:t.length=m.length-1-(k+1):=by omega
   obtain ⟨hlo,hhi⟩:=HLO.out;obtain ⟨J,hJ⟩:∃J,J=zH m za (k+1) t:=⟨_,rfl⟩;have hJ2:J=(hi-lo+1).toNat:=by rw [hJ,hlo,hhi];rfl
   have hre:rest=tK m za k t J:=by rw [hJ];exact HRS.out
   have HK1:Hid (∀i,i<J->0<=left (ent m) za (k+1) ((lo+(i:Int))::t)):=Zh (fun i hi'=>by
    rw [hlo];exact qU hr t hkm htm H0.out (j:=i) (by rw [hJ] at hi';exact hi'))
   have HK2:Hid (∀i,i<=J->(tK m za k t i).length<=rest.length):=Zh (fun i hi'=>by rw [hre];exact zoB m za k t hi');have HK4:Hid (∀i:Nat,tK m za k t (i+1)=tK m za k t i++tE m za k ((lo+(i:Int))::t)):=Zh (fun i=>by rw [zb0,<-hlo]);have HRE:=Zh hre;have zpb:Hid (∀i,i<J->∀a∈(lo+(i:Int))::t,-9223372036854775808<=a/\a<=9223372036854775807):=Zh (fun i hi' a ha=>by
    rcases List.mem_cons.1 ha with rfl |ha
    ·omega
    ·exact HTB.out a ha)
   have hq1:q+1<n:=by omega
   have hhl:hi-lo+1=(J:Int):=by omega
   have HIH:=Zh (IH.out k (by omega));clear hre hr hq0 hmj htq hkm htm hlo hhi hJ hJ2 IH;go_wp2_with fail
   go_loopw [3,11] (fun s3 x wr=>∃(i:Nat) (A3:Option Addr) (c3:Nat),i<=J/\x= .int .i64 (lo+(i:Int))/\s3= .slice A3 (len+1+(tK m za k t i).length) c3/\Hid (Own wr zd 64 2 A3 (len+1+(tK m za k t i).length) c3 (xs++[.int .i64 lo,.int .i64 hi]++zF (tK m za k t i)))/\Hid (Grow zd 64 w2 wr)) (fun _ x _=>(hi-intOf x+1).toNat)
   case atStart=>exact ⟨0,A2,c2,by omega,by simp,rfl,Zh (by have :=HO2.out;simpa [tK,zF] using this),Zh (Grow.ofx (Ext.refl _) zr8)⟩
   case round=>
    obtain ⟨i,A3,c3,hi',rfl,rfl,HOI,HGI⟩:=hrel;have hfr:=HFW.out wr HGI.out;obtain ⟨⟨f0,f1,f2⟩,-,f3⟩:=qY hfr;have oW:Old w.heap.size wr:=⟨f3⟩;have zq6:zd<=wr.heap.size:=Nat.le_trans zr8 HGI.out.below.size;by_cases hlt:i<J
    ·have hG:=HG0.out.step HGI.out;have hF:=HFV.out.oth (Oth.of_grow hG) (by decide) (by decide) (by decide) (by decide);have hT:=HTV.out.oth (Oth.of_grow hG) (by decide);have hk4:=HK4.out i;have hk2:=HK2.out (i+1) (by omega);rw [hk4,List.length_append] at hk2;have hle:lo+(i:Int)<=hi:=by omega
     have HLG:Hid (∀W,Ext wr W->Calls Tryz.prog 109 #[.int .i64 (lo+(i:Int)),.slice TA q tc] W (fun e w'=>∃A c,e= .returned (.slice A (q+1) c)/\Ints w' A 2 .i64 ((lo+(i:Int))::t)/\Step W w')):=Zh (fun W e=>by
      have :=zbV (w:=W) (c:=tc) (lo+(i:Int)) hT (by rw [HTL.out];omega);rw [HTL.out] at this;refine this.mono ?_;rintro e w' ⟨A,c,rfl,a1,-,-,a4⟩;exact ⟨A,c,by rw [List.length_cons,HTL.out],a1,a4⟩)
     have HCN:Hid (∀(W:World) (A:Option Addr) (c:Nat),Ints W A 2 .i64 ((lo+(i:Int))::t)->Ext wr W->Calls Tryz.prog 65 #[.agg #[.int .i64 n,.slice SB n sc,.slice DB (n+1) dc],.int .i64 za,.slice A (q+1) c,.slice A3 (len+1+(tK m za k t i).length) c3] W (zb1 W zd (len+1+(tK m za k t i).length) (xs++[.int .i64 lo,.int .i64 hi]++zF (tK m za k t i)) (tE m za k ((lo+(i:Int))::t)))):=Zh (fun W A c hI e=>
      HIH.out W SB DB A A3 sc dc c c3 (q+1) _ _ _ (by have :=HQ.out;omega) (hF.ext e) hI (by rw [List.length_cons,HTL.out]) (zpb.out i hlt) (HK1.out i hlt) (HOI.out.ext e) (Nat.le_trans zq6 e.size) (by omega))
     have HEX:Hid (∀W,Ext wr W->W.cell? ⟨w.heap.size,0,none⟩=some (.int .i64 n)/\W.cell? ⟨w.heap.size,1,none⟩=some (.slice SB n sc)/\W.cell? ⟨w.heap.size,2,none⟩=some (.slice DB (n+1) dc)):=Zh (fun W e=>(qY (zg e hfr)).1);have HEO:Hid (∀W,Grow zd 64 wr W->W.cell? ⟨w.heap.size,0,none⟩=some (.int .i64 n)/\W.cell? ⟨w.heap.size,1,none⟩=some (.slice SB n sc)/\W.cell? ⟨w.heap.size,2,none⟩=some (.slice DB (n+1) dc)):=Zh (fun W e=>(qY (HFW.out W (HGI.out.step e))).1)
     unfold zb1 at HCN;have HK4:=Zh hk4;obtain ⟨t2,ht2⟩:∃t2,t2=(lo+(i:Int))::t:=⟨_,rfl⟩;rw [<-ht2] at HLG HCN HK4;clear hF hT hG hk4 hk2 ht2 hfr;generalize tE m za k t2=tc2 at*
     go_wp2_with fail
     go_region_held3 (fun w'=>w'.cell? ⟨w.heap.size,0,none⟩=some (.int .i64 n)/\w'.cell? ⟨w.heap.size,1,none⟩=some (.slice SB n sc)/\w'.cell? ⟨w.heap.size,2,none⟩=some (.slice DB (n+1) dc))
      (first |exact HEX.out _ Zi |exact HEO.out _ hOx)
      (first
       |(go_at_call 109;refine (HLG.out _ Zi).mono ?_;rintro e w5 ⟨A5,c5,rfl,hI5,hs5⟩)
       |(go_at_call 65;refine (HCN.out _ _ _ hI5 Zi).mono ?_;rintro e w6 ⟨A6,c6,rfl,hO6,hG6⟩;have hOx:Grow zd 64 wr w6:=(Grow.ofx (Zi:Ext wr w5) zq6).step hG6))
     have HO6:=Zh hO6;have HX6:=Zh hOx;have hw3:IntKind.i64.wrap (lo+(i:Int)+1)=lo+((i+1:Nat):Int):=by rw [IntKind.wrap_i64];omega
     have zu6:zd<=w6.heap.size:=Nat.le_trans zq6 hOx.below.size;clear hO6 hG6 hOx;go_wp2_with fail
     refine ⟨⟨i+1,A6,c6,by omega,by first |rfl |(congr 1;omega),?_,Zh ?_,Zh (HGI.out.step (HX6.out.step (Grow.ofx Zi zu6)))⟩,by simp [intOf]<;>omega⟩
     ·rw [HK4.out,List.length_append,<-Nat.add_assoc]
     ·have h3:=HO6.out.ext (Zi:Ext w6 w6);rw [HK4.out,List.length_append,<-Nat.add_assoc,za3,<-List.append_assoc];exact h3
    ·obtain rfl:i=J:=by omega
     have zqK:decide (lo+(i:Int)<=hi)=false:=by simp;omega
     go_wp2_with fail
     go_ret;refine ⟨A3,c3,?_,?_,HG0.out.step (HGI.out.step (Grow.ofx Zi zq6))⟩
     ·rw [HRE.out];show Ending.returned (Value.slice A3 (len+1+(tK m za k t i).length) c3)=_;rw [show len+1+(tK m za k t i).length=len+((tK m za k t i).length+1) by omega]
     ·rw [HRE.out,show len+((tK m za k t i).length+1)=len+1+(tK m za k t i).length by omega];have h3:=HOI.out.ext (Zi:Ext wr wr);simpa [List.append_assoc] using h3
def zhQ (w:World) (m:List (List Int)) (za budget:Int) (e:Ending) (w':World):Prop:=
 (Z7 m za<=budget/\∃A c,e= .returned (.tuple #[.slice A (Zd m za).length c,.int .i64 0])/\Own w' w.heap.size 64 2 A (Zd m za).length c (zF (Zd m za))/\Step w w')∨(budget<Z7 m za/\e= .returned (.tuple #[.slice none 0 0,.int .i64 9])/\Step w w')
set_option maxRecDepth 20000 in
theorem zoD {w0 w:World} {A:Option Addr} {c n:Nat} {m:List (List Int)} {za budget:Int} (hM:Mat64 w0 A m) (hL:LLLed m) (h1:m.length=n) (hb:0<=za) (hb1:za<1073741824) (hu0:0<=budget) (hu1:budget<=1000000) [hx:Ext w0 w]:
  Calls Tryz.prog 41 #[.slice A n c,.int .i64 za,.int .i64 budget] w (zhQ w m za budget):=by
 have hr:=ZF hL.red;have hn8:=hL.len8;have hn1:=hL.len1;have HST:Hid (∀W,Ext w0 W->Calls Tryz.prog 35 #[.slice A n c,.int .i64 za,.int .i64 budget] W (zbZ W m n za budget)):=Zh (fun W e=>zoA hM hL h1 hb hb1 hu0 hu1);have HOF:Hid (∀W,Ext w0 W->Calls Tryz.prog 62 #[.slice A n c] W (za0 W m n)):=Zh (fun W e=>zbW hM hL h1);have zqp:=Qi hr hb;have htl:=zhg hr hb hb1 (m.length-1) [] (by omega) (by simp) zqp
 have hts:=zhE hr hb;have zp9:((Zd m za).length:Int)<=1+Z7 m za:=by rw [hts];exact htl
 have HTR:Hid (∀(W:World) (SB DB:Option Addr) (sc dc:Nat),Z7 m za<=budget->FrV W m SB DB->Calls Tryz.prog 65 #[.agg #[.int .i64 n,.slice SB n sc,.slice DB (n+1) dc],.int .i64 za,.slice none 0 0,.slice none 0 0] W (fun e w'=>∃A c,e= .returned (.slice A (Zd m za).length c)/\Own w' W.heap.size 64 2 A (Zd m za).length c (zF (Zd m za))/\Ext W w')):=Zh (fun W SB DB sc dc zqM hF=>by
  have ht:Zd m za=tE m za (n-1) []:=by unfold Zd;rw [h1]
  have :=zoC (zd:=W.heap.size) hL h1 hb hb1 (n-1) W SB DB none none sc dc 0 0 0 0 [] [] (by omega) hF Ints.nil rfl (fun a ha=>by simp at ha) (by rw [h1] at zqp;exact zqp) (Own.nil _ _ _ _) Zr (by rw [<-ht];omega);refine this.mono ?_;rintro e w' ⟨A,c,rfl,hO,hG⟩;rw [<-ht,Nat.zero_add] at hO |-
  exact ⟨A,c,rfl,by simpa using hO,hG.ext (Ext.refl _) Zr⟩)
 unfold zbZ at HST;unfold zhQ;generalize Z7 m za=tot at*
 generalize jo m za=st at*
 generalize Zd m za=T at*
 clear hM hL h1 hr zqp htl hts;go_enter Tryz.func41,Tryz.ntmps41;go_wp2_with (go_at_call 35;refine (HST.out _ Zi).mono ?_;rintro e w1 (⟨zqM,g,rfl,-,-,hs1⟩ |⟨zqM,rfl,hs1⟩))
 ·refine (HOF.out _ Zi).mono ?_;rintro e w2 ⟨SB,sc,DB,dc,rfl,hF,-,-,-,-,hs2⟩;go_wp2_with (go_at_call 65;refine (HTR.out _ _ _ _ _ zqM hF).mono ?_;rintro e w3 ⟨A3,c3,rfl,hO3,hx3⟩)
  have hxw:Ext w w2:=Zi;have hx4:Ext w w3:=hxw.trans hx3;go_ret2
  exact .inl ⟨zqM,A3,c3,rfl,hO3.lower hxw.size,hx4.toStep⟩
 ·go_ret2
  exact .inr ⟨zqM,rfl,hs1⟩
theorem zoE {m:List (List Int)} (hn:AllLen m m.length):ZY m 0=m:=by
 unfold ZY;rw [Nat.sub_zero];have :tab (fun i j=>E (ent m) 0 (0+i) (0+j)) m.length m.length=tab (fun i j=>ent m i j) m.length m.length:=zfN fun i j _ _=>by rw [Nat.zero_add,Nat.zero_add];rfl
 rw [this];exact (zgT rfl hn).symm
theorem zoF {m:List (List Int)} (hL:LLLed m) {x:List Int} (hxl:x.length=m.length) (hxb:∀a∈x,-9223372036854775808<=a/\a<=9223372036854775807):Bd 100000 (zu m x):=by
 have h8:=hL.len8;rw [<-zhh hL.all x hxl,zhw];have h1:=zhv (m:=m) (n:=m.length) (k:=199) (x:=x) (by omega) hL.bd (fun i=>(za1 hxb i).mono (by omega));exact (Ju (k:=64+(2*199+m.length)) (n:=m.length) (fun i _=>(za1 hxb i).mul (h1 i)) m.length Zr).mono (by omega)
set_option maxRecDepth 20000 in
theorem zoG {w0 w1 w:World} {m:List (List Int)} {x:List Int} {SB DB XA:Option Addr} {sc dc xc n:Nat} (hF':FrV w0 m SB DB) (hL:LLLed m) (h1:m.length=n) (hX:Ints w1 XA 2 .i64 x) (hxl:x.length=n) (hxb:∀a∈x,-9223372036854775808<=a/\a<=9223372036854775807) [hx:Ext w0 w] [hy:Ext w1 w]:
  Calls Tryz.prog 141 #[.agg #[.int .i64 n,.slice SB n sc,.slice DB (n+1) dc],.slice XA n xc] w (Q5 w (fun p q=>p=zu m x/\q=1)):=by
 have h8:=hL.len8;have h3:=hL.len1;have hF:=hF'.ext hx;have hms:((List.range m.length).map (ZY m))[0]? =some (ZY m 0):=by rw [List.getElem?_map,List.getElem?_range (by omega)];rfl
 obtain ⟨bs,os,BM,cM,rfl,g1,hM,-,-,g2⟩:=hF.1.at_ hms;rw [zoE hL.all] at g1 hM;obtain ⟨bd,od,gD,BD,kD,dD,rfl,d1,d2,hzD,d3⟩:=hF.2.atD (i:=0) (by simp);simp only [List.getD_cons_zero] at hzD;rw [h1] at g1;simp only [Nat.add_zero,Nat.zero_mul] at g1 d1 d2;have zqe:AllLen m n:=by rw [<-h1];exact hL.all
 have HCO:Hid (∀W,Ext w1 W->Calls Tryz.prog 162 #[.slice XA n xc] W (zbR W x)):=Zh (fun W e=>by
  have :=zhu (w:=W) (c:=xc) hX (by omega) hxb;rwa [hxl] at this)
 have hnv:(zD n fun i=>x.getD i 0*(Z8 m n x).getD i 0)=zu m x:=by
  rw [<-zhh hL.all x (by omega),zhw,h1]
 have HVA:Hid (∀(W1 W:World) (A1:Option Addr) (c1:Nat),IntsV W1 A1 x->Ext W1 W->Ext w W->Calls Tryz.prog 204 #[.slice BM n cM,.slice A1 n c1] W (zx W (zu m x))):=Zh (fun W1 W A1 c1 i1 e1 e2=>by
  rw [<-hnv];exact zom (k:=199) (hM.ext e2) i1 h1 (by omega) (by omega) zqe hxl (by omega) hL.bd (fun i=>(za1 hxb i).mono (by omega)))
 have hnb:=zoF hL (x:=x) (by omega) hxb;have HQU:Hid (∀(W1 W:World) g B k d,IntV W1 g B k d (zu m x)->Ext W1 W->Ext w W->Calls Tryz.prog 152 #[.agg #[.bool g,.slice B k d],.agg #[.bool gD,.slice BD kD dD]] W (Q5 W (RatOf (zu m x) 1))):=Zh (fun W1 W g B k d hz e1 e2=>zgQ hz (hzD.ext e2) (kk:=100000) (by omega) hnb (Bd.one (by omega)) (by omega));have HXL:=Zh hxl;have hn0:((n:Int)==0)=false:=by simp;omega
 have hn8:n<=8:=by omega
 have hn1:0<n:=by omega
 unfold Q5 at HQU |-
 generalize zu m x=nv at*
 clear hF hF' hms hM hL h1 hX hxl hxb zqe hnv hnb hzD h8 h3;have oa:Old bs w:=⟨g2⟩;have ob:Old bd w:=⟨d3⟩;go_enter Tryz.func141,Tryz.ntmps141;go_wp2_with fail
 have HKP:Hid (∀W,Ext (w.alloc (.cells #[.int .i64 n,.slice (some ⟨bs,os,none⟩) n sc,.slice (some ⟨bd,od,none⟩) (n+1) dc] 89)) W->W.cell? ⟨w.heap.size,1,none⟩=some (.slice (some ⟨bs,os,none⟩) n sc)/\W.cell? ⟨w.heap.size,2,none⟩=some (.slice (some ⟨bd,od,none⟩) (n+1) dc)/\W.cell? ⟨bs,os,none⟩=some (.slice BM n cM)/\W.cell? ⟨bd,od,none⟩=some (.bool gD)/\W.cell? ⟨bd,od+1,none⟩=some (.slice BD kD dD)):=Zh (fun W e=>by
  have hb:=zg e (heap_alloc_new w _);obtain ⟨⟨-,f1,f2⟩,-,-⟩:=qY hb;have e2:Ext w W:=Ext.trans Zi e;exact ⟨f1,f2,(zi w).trans g1,(zi w).trans d1,(zi w).trans d2⟩)
 go_region_held3 (fun w'=>w'.cell? ⟨w.heap.size,1,none⟩=some (.slice (some ⟨bs,os,none⟩) n sc)/\w'.cell? ⟨w.heap.size,2,none⟩=some (.slice (some ⟨bd,od,none⟩) (n+1) dc)/\w'.cell? ⟨bs,os,none⟩=some (.slice BM n cM)/\w'.cell? ⟨bd,od,none⟩=some (.bool gD)/\w'.cell? ⟨bd,od+1,none⟩=some (.slice BD kD dD))
  (exact HKP.out _ Zi)
  (first
   |(go_at_call 162;refine (HCO.out _ Zi).mono ?_;rintro e w3 ⟨A3,c3,rfl,hI3,-,-,hs3⟩;rw [HXL.out])
   |(go_at_call 204;refine (HVA.out _ _ _ _ hI3 Zi Zi).mono ?_;rintro e w4 ⟨g4,B4,k4,d4,rfl,hz4,hs4⟩)
   |(go_at_call 152;refine (HQU.out _ _ _ _ _ _ hz4 Zi Zi).mono ?_;rintro e w5 ⟨g6,B6,k6,d6,g7,B7,k7,d7,p,q,rfl,hz6,hz7,hPQ,hs5⟩;have hbk:=(Zi:BlkAt (w.heap.size+1) #[.bool false,.slice none 0 0,.bool false,.slice none 0 0] 189 w5).eq;have HBK:=Zh hbk;obtain ⟨⟨a0,a1,a2,a3⟩,⟨f0,f1,f2,f3⟩,a4⟩:=QH hbk;have tq:Typed (w.heap.size+1) 189 w5:=⟨_,_,hbk⟩;clear hbk))
 have hq1:q=1:=by
  have :=hPQ.pos;have :=hPQ.le2;omega
 have hp1:p=nv:=by
  have :=hPQ.eq;rw [hq1] at this;omega
 clear hPQ;go_wp2_with fail
 exact bodyPost_ret (v:= .agg #[.bool g6,.slice B6 k6 d6,.bool g7,.slice B7 k7 d7]) (by simp [results,Tryz.results141,go_sem,a0,a1,a2,a3]) rfl ⟨_,_,_,_,_,_,_,_,p,q,rfl,hz6.keeps,hz7.keeps,⟨hp1,hq1⟩,Step.of _ _⟩
def ItV (w:World) (vs:List Value) (its:List (Int×List Int)):Prop:=vs.length=its.length*2/\∀(i:Nat) (p:Int×List Int),its[i]? =some p->∃B c,vs[i*2]? =some (.int .i64 p.1)/\vs[i*2+1]? =some (.slice B p.2.length c)/\Ints w B 2 .i64 p.2/\p.2.length<=c/\c<=9223372036854775807
theorem ItV.map {w w':World} {vs:List Value} {its:List (Int×List Int)} (h:ItV w vs its) (hk:∀{B:Option Addr} {l:List Int},Ints w B 2 .i64 l->Ints w' B 2 .i64 l):ItV w' vs its:=⟨h.1,fun i p hp=>by
 obtain ⟨B,c,a1,a2,a3,a4⟩:=h.2 i p hp;exact ⟨B,c,a1,a2,hk a3,a4⟩⟩
theorem ItV.ext {w w':World} {vs:List Value} {its:List (Int×List Int)} (h:ItV w vs its) (hx:Ext w w'):ItV w' vs its:=h.map fun h=>h.ext hx
theorem ItV.nil (w:World):ItV w [] []:=⟨rfl,fun i p hp=>by simp at hp⟩
theorem ItV.snoc {w:World} {vs:List Value} {its:List (Int×List Int)} (h:ItV w vs its) {B:Option Addr} {c:Nat} {a:Int} {x:List Int} (hI:Ints w B 2 .i64 x) (h1:x.length<=c) (h2:c<=9223372036854775807):ItV w (vs++[.int .i64 a,.slice B x.length c]) (its++[(a,x)]):=by
 refine ⟨by simp [h.1];omega,fun i p hp=>?_⟩;rcases Zl i its.length with hlt |hge
 ·rw [List.getElem?_append_left hlt] at hp;obtain ⟨B',c',a1,a2,a3⟩:=h.2 i p hp;have hl:=h.1;exact ⟨B',c',by rw [List.getElem?_append_left (by omega)];exact a1,by rw [List.getElem?_append_left (by omega)];exact a2,a3⟩
 ·have hi:i=its.length:=by
   have :=(Zg.1 hp).1;simp at this;omega
  subst hi;rw [List.getElem?_append_right Zr,Nat.sub_self] at hp;simp only [List.getElem?_cons_zero] at hp;injection hp with hp
  subst hp;have hl:=h.1;exact ⟨B,c,by rw [List.getElem?_append_right (by omega),hl,Nat.sub_self];rfl,by rw [List.getElem?_append_right (by omega),hl,Nat.add_sub_cancel_left];rfl,hI,h1,h2⟩
end
section
open Go.RowKit
open La
theorem Qu:(Tryz.prog.info? 45).map (fun i=>(i.zero,i.size,i.bytes))=some (some (.agg #[.int .i64 0,.slice none 0 0]),2,32):=by kernel_rfl
theorem Grow.stepI {w w' w2:World} {zd:Nat} {e:TypeId} (h:Grow zd e w w') (h':Grow zd e w' w2):Grow zd e w w2:=⟨h.below.trans h'.below,fun k hk hne=>by
 have e1:=h.typed k hk hne;exact (h'.typed k (Nat.lt_of_lt_of_le hk h.below.size) (fun cs fr hh=>hne cs fr (by rw [<-e1];exact hh))).trans e1⟩
theorem zoH (g:Bool) (B:Option Addr) (k d:Nat) (g':Bool) (B':Option Addr) (k' d':Nat) (w:World):(Instr.field 189 (.agg #[.bool g,.slice B k d,.bool g',.slice B' k' d']) 0).run Tryz.prog w= .ok (.agg #[.bool g,.slice B k d]) w:=by
 obtain ⟨i,h1,h2,h3,h4⟩:=info_parts QO;simp [Instr.field,run_underlying Tryz.underlying189,asAgg,part,sizeOf,typeInfo,go_sem,h1,h3]
attribute [local go_sem] zoH
def lvN (m:List (List Int)) (b:Int):Nat->List Int->List (List Int)
 |0,t=>[t]
 |k+1,t=>zS m b k t
def ZV (m:List (List Int)) (b:Int) (k:Nat) (t:List Int) (q:Nat):List (List Int):=(List.range q).flatMap fun (j:Nat)=>lvN m b k ((zj m b k t+(j:Int))::t)
theorem zhR (m:List (List Int)) (b:Int) (k:Nat) (t:List Int):zS m b k t=ZV m b k t (zH m b k t):=by
 cases k with
 |zero=>
  unfold ZV lvN;rw [zS];induction List.range (zH m b 0 t) with
  |nil=>rfl
  |cons a l ih=>rw [List.map_cons,List.flatMap_cons,ih];rfl
 |succ k=>rfl
theorem zdX (m:List (List Int)) (b:Int) (k:Nat) (t:List Int) (q:Nat):ZV m b k t (q+1)=ZV m b k t q++lvN m b k ((zj m b k t+(q:Int))::t):=by
 unfold ZV;rw [List.range_succ,List.flatMap_append,List.flatMap_singleton]
theorem zoI (m:List (List Int)) (b:Int) (k:Nat) (t:List Int) {p q:Nat} (h:p<=q):(ZV m b k t p).length<=(ZV m b k t q).length:=by
 induction q with
 |zero=>obtain rfl:p=0:=by omega
        exact Zr
 |succ q ih=>
  rcases Zl p (q+1) with h1 |h1
  ·have :=ih (by omega);rw [zdX,List.length_append];omega
  ·obtain rfl:p=q+1:=by omega
   exact Zr
def jr (m:List (List Int)) (L:List (List Int)):List (Int×List Int):=L.map fun x=>(zu m x,x)
theorem zhS (m:List (List Int)) (L L':List (List Int)):jr m (L++L')=jr m L++jr m L':=List.map_append
def zb2 (w:World) (zd len:Nat) (its:List (Int×List Int)) (m L:List (List Int)) (e:Ending) (w':World):Prop:=∃A c vs,e= .returned (.slice A (len+L.length) c)/\Own w' zd 45 2 A (len+L.length) c vs/\ItV w' vs (its++jr m L)/\Grow zd 45 w w'
set_option maxRecDepth 20000 in
theorem zoJ {m:List (List Int)} {n zd:Nat} {za:Int} (hL:LLLed m) (h1:m.length=n) (hb:0<=za) (hb1:za<1073741824) (k:Nat):
  ∀(w:World) (SB DB TA OA:Option Addr) (sc dc tc oc q len:Nat) (t:List Int) (vs:List Value) (its:List (Int×List Int)),n=k+q+1->FrV w m SB DB->Ints w TA 2 .i64 t->t.length=q->(∀a∈t,-9223372036854775808<=a/\a<=9223372036854775807)->0<=left (ent m) za (k+1) t->Own w zd 45 2 OA len oc vs->ItV w vs its->zd<=w.heap.size->len+(zS m za k t).length<=4000000->
  Calls Tryz.prog 85 #[.agg #[.int .i64 n,.slice SB n sc,.slice DB (n+1) dc],.int .i64 za,.slice TA q tc,.slice OA len oc] w (zb2 w zd len its m (zS m za k t)):=by
 induction k using Nat.strongRecOn with
 |ind k ih=>
  intro w SB DB TA OA sc dc tc oc q len t vs its hq hF hT htl htb h0 hO hV hbs hln;have IH:=Zh ih;clear ih;have hr:=ZF hL.red;have hn8:=hL.len8;have hkm:k<m.length:=by omega
  have htm:t.length=m.length-1-k:=by omega
  obtain ⟨v1,v2,v3,v4,v5,v6⟩:=zaZ hr hb hb1 hkm htm h0;have HIV:Hid (∀W,Ext w W->Calls Tryz.prog 108 #[.agg #[.int .i64 n,.slice SB n sc,.slice DB (n+1) dc],.int .i64 za,.slice TA q tc] W (zz W (.tuple #[.int .i64 (zj m za k t),.int .i64 (zB m za k t)]))):=Zh (fun W e=>
   zbY hF hL h1 hq hT htl htb (by omega) (by omega) h0 (by omega) (by omega) (by omega) (by omega))
  rw [zhR] at hln |-
  unfold zb2;obtain ⟨J,hJ⟩:∃J,J=zH m za k t:=⟨_,rfl⟩;rw [<-hJ] at hln |-
  have hJ2:J=(zB m za k t-zj m za k t+1).toNat:=hJ;have HK1:Hid (∀i,i<J->0<=left (ent m) za k ((zj m za k t+(i:Int))::t)):=Zh (fun i hi'=>qU hr t hkm htm h0 (j:=i) (by rw [hJ] at hi';exact hi'));have HK2:Hid (∀i,i<=J->(ZV m za k t i).length<=(ZV m za k t J).length):=Zh (fun i hi'=>zoI m za k t hi');have HK4:=Zh (zdX m za k t);obtain ⟨lo,hlo⟩:∃lo,lo=zj m za k t:=⟨_,rfl⟩;obtain ⟨hi,hhi⟩:∃hi,hi=zB m za k t:=⟨_,rfl⟩
  rw [<-hlo] at v1 v2 v3 v4 HIV HK1 HK4 hJ2;rw [<-hhi] at v1 v2 v5 v6 HIV hJ2;have hhl:hi-lo+1=(J:Int):=by omega
  have zpb:Hid (∀i,i<J->∀a∈(lo+(i:Int))::t,-9223372036854775808<=a/\a<=9223372036854775807):=Zh (fun i hi' a ha=>by
   rcases List.mem_cons.1 ha with rfl |ha
   ·omega
   ·exact htb a ha)
  have HNB:Hid (k=0->∀i,i<J->-9223372036854775808<=zu m ((lo+(i:Int))::t)/\zu m ((lo+(i:Int))::t)<=9223372036854775807):=Zh (fun e i hi'=>by
   have h4:=HK1.out i hi';subst e;have hlx:((lo+(i:Int))::t).length=m.length:=by simp;omega
   rw [Qr hL.all za _ hlx] at h4;have :=zf6 hr _ hlx;omega)
  have HFV:=Zh hF;have HTV:=Zh hT;have HH1:=Zh h1;have HTL:=Zh htl;have HQ:=Zh hq;have HO:=Zh hO;have HV:=Zh hV;have hqn:q<n:=by omega
  have hn9:n<=8:=by omega
  clear hlo hhi h1 hkm hq htl hJ hF hT htb h0 hO hV hr htm hJ2;go_enter Tryz.func85,Tryz.ntmps85;go_upto_region 2 with (go_at_call 108;refine (HIV.out _ Zi).mono ?_;rintro e w1 ⟨rfl,hs1⟩)
  have hx1:Ext w w1:=Zi;have zsR:zd<=w1.heap.size:=Nat.le_trans hbs hx1.size;have hfb:w1.heap[w.heap.size]? =some (.cells #[.int .i64 n,.slice SB n sc,.slice DB (n+1) dc] 89 (0,0)):=zg (Zi:Ext (w.alloc (.cells #[.int .i64 n,.slice SB n sc,.slice DB (n+1) dc] 89)) w1) (heap_alloc_new w _);have HFW:Hid (∀W,Grow zd 45 w1 W->W.heap[w.heap.size]? =some (.cells #[.int .i64 n,.slice SB n sc,.slice DB (n+1) dc] 89 (0,0))):=Zh (fun W h=>h.heap hfb (by decide))
  have HG0:Hid (Grow zd 45 w w1):=Zh (Grow.of_ext hx1 hbs);clear hfb;go_wp2_with fail
  go_loopw [3,11] (fun s3 x wr=>∃(i:Nat) (A3:Option Addr) (c3:Nat) (vs3:List Value),i<=J/\x= .int .i64 (lo+(i:Int))/\s3= .slice A3 (len+(ZV m za k t i).length) c3/\Hid (Own wr zd 45 2 A3 (len+(ZV m za k t i).length) c3 vs3)/\Hid (ItV wr vs3 (its++jr m (ZV m za k t i)))/\Hid (Grow zd 45 w1 wr)) (fun _ x _=>(hi-intOf x+1).toNat)
  case atStart=>exact ⟨0,OA,oc,vs,by omega,by simp,rfl,Zh (HO.out.ext hx1),Zh (by have :=HV.out.ext hx1;simpa [ZV,jr] using this),Zh (Grow.of_ext (Ext.refl _) zsR)⟩
  case round=>
   obtain ⟨i,A3,c3,vs3,hi',rfl,rfl,HOI,HVI,HGI⟩:=hrel;have hfr:=HFW.out wr HGI.out;obtain ⟨⟨f0,f1,f2⟩,-,f3⟩:=qY hfr;have oW:Old w.heap.size wr:=⟨f3⟩;have zq6:zd<=wr.heap.size:=Nat.le_trans zsR HGI.out.below.size;by_cases hlt:i<J
   ·have hG:=HG0.out.stepI HGI.out;have hF:=HFV.out.oth (Oth.of_grow hG) (by decide) (by decide) (by decide) (by decide);have hT:=HTV.out.oth (Oth.of_grow hG) (by decide);have hk4:=HK4.out i;have hk2:=HK2.out (i+1) (by omega);rw [hk4,List.length_append] at hk2;have hle:lo+(i:Int)<=hi:=by omega
    have HLG:Hid (∀W,Ext wr W->Calls Tryz.prog 109 #[.int .i64 (lo+(i:Int)),.slice TA q tc] W (fun e w'=>∃A c,e= .returned (.slice A (q+1) c)/\Ints w' A 2 .i64 ((lo+(i:Int))::t)/\q+1<=c/\c<=9223372036854775807/\Step W w')):=Zh (fun W e=>by
     have :=zbV (w:=W) (c:=tc) (lo+(i:Int)) hT (by rw [HTL.out];omega);rw [HTL.out] at this;refine this.mono ?_;rintro e w' ⟨A,c,rfl,a1,a2,a3,a4⟩;rw [List.length_cons,HTL.out] at a2;exact ⟨A,c,by rw [List.length_cons,HTL.out],a1,a2,a3,a4⟩)
    have hw3:IntKind.i64.wrap (lo+(i:Int)+1)=lo+((i+1:Nat):Int):=by rw [IntKind.wrap_i64];omega
    have HEX:Hid (∀W,Ext wr W->W.cell? ⟨w.heap.size,0,none⟩=some (.int .i64 n)/\W.cell? ⟨w.heap.size,1,none⟩=some (.slice SB n sc)/\W.cell? ⟨w.heap.size,2,none⟩=some (.slice DB (n+1) dc)):=Zh (fun W e=>(qY (zg e hfr)).1);rcases k with _ |k
    ·have hqe:q+1=n:=by have :=HQ.out;omega
     have hb0:decide ((q:Int)+1<(n:Int))=false:=by simp;omega
     have HPA:Hid (∀(W1 W:World) (A:Option Addr) (c:Nat),Ints W1 A 2 .i64 ((lo+(i:Int))::t)->Ext W1 W->Ext wr W->Calls Tryz.prog 141 #[.agg #[.int .i64 n,.slice SB n sc,.slice DB (n+1) dc],.slice A (q+1) c] W (Q5 W (fun p q=>p=zu m ((lo+(i:Int))::t)/\q=1))):=Zh (fun W1 W A c i1 e1 e2=>by
      rw [hqe];exact zoG (hF.ext e2) hL HH1.out i1 (by rw [List.length_cons,HTL.out];exact hqe) (zpb.out i hlt))
     have hnb:=HNB.out rfl i hlt;have HLN:Hid (lvN m za 0 ((lo+(i:Int))::t)=[(lo+(i:Int))::t]):=Zh rfl;rw [HLN.out] at hk4 hk2;have HK4':=Zh hk4;have zpB:Hid (((lo+(i:Int))::t).length=q+1):=Zh (by rw [List.length_cons,HTL.out]);simp only [List.length_cons,List.length_nil] at hk2;obtain ⟨t2,ht2⟩:∃t2,t2=(lo+(i:Int))::t:=⟨_,rfl⟩;rw [<-ht2] at HLG HPA hnb HK4' zpB;have HN2:Hid (jr m [t2]=[(zu m t2,t2)]):=Zh rfl
     unfold Q5 at HPA;generalize zu m t2=nv at*
     clear hF hT hG hk4 ht2 hfr hqe;go_wp2_with (first
      |(go_at_call 109;refine (HLG.out _ Zi).mono ?_;rintro e w5 ⟨A5,c5,rfl,hI5,h51,h52,hs5⟩;obtain ⟨x0,x1,x2⟩:=HEX.out w5 Zi;have ztS:Ext wr w5:=Zi)
      |(go_at_call 141;refine (HPA.out _ _ _ _ hI5 Zi Zi).mono ?_;rintro e w6 ⟨g6,B6,k6,d6,g7,B7,k7,d7,p,qq,rfl,hz6,hz7,⟨rfl,-⟩,hs6⟩)
      |(go_at_call 140;refine (zbx hz6 hnb.1 hnb.2).mono ?_;rintro e w7 ⟨rfl,hs7⟩;have hI7:=hI5.ext (Zi:Ext w5 w7);have hx7:Ext wr w7:=Zi;have zv3:zd<=w7.heap.size:=Nat.le_trans zq6 hx7.size)
      |(at_builtin;go_loud (refine zI _ rfl _ _ 77 rfl zd 45 (.agg #[.int .i64 0,.slice none 0 0]) 2 32 Tryz.underlying77 Qu rfl (by omega) (by omega) A3 (len+(ZV m za 0 t i).length) c3 vs3 rfl (HOI.out.ext Zi) (some ⟨w7.heap.size,0,none⟩) 1 1 [.int .i64 p,.slice A5 (q+1) c5] rfl (Arr.new w7 45 #[.int .i64 p,.slice A5 (q+1) c5]) (by simp) (by simp [Value.oneCell']) (by omega) (by simp;omega) ?_);intro A8 c8 w8 zp7 hg;have HO8:=Zh zp7;have HG8:=Zh hg;clear zp7 hg))
     refine ⟨⟨i+1,A8,c8,vs3++[.int .i64 p,.slice A5 (q+1) c5],by omega,by first |rfl |(congr 1;omega),?_,Zh ?_,Zh ?_,Zh (HGI.out.stepI ((Grow.of_ext (Zi:Ext wr (w7.alloc (.cells #[.int .i64 p,.slice A5 (q+1) c5] 45))) zq6).stepI HG8.out))⟩,by simp [intOf]<;>omega⟩
     ·rw [HK4'.out];simp only [List.length_append,List.length_cons,List.length_nil];rfl
     ·rw [HK4'.out,List.length_append,List.length_singleton,<-Nat.add_assoc];exact HO8.out
     ·rw [HK4'.out,zhS,HN2.out,<-List.append_assoc];rw [<-zpB.out];exact (ItV.snoc (HVI.out.ext (Zi:Ext wr w7)) (hI7) (by rw [zpB.out];exact h51) h52).map fun h=>(h.ext (Zi:Ext w7 (w7.alloc (.cells #[.int .i64 p,.slice A5 (q+1) c5] 45)))).oth (Oth.of_grow HG8.out) (by decide)
    ·have hq1:q+1<n:=by have :=HQ.out;omega
     have hb0:decide ((q:Int)+1<(n:Int))=true:=by simp;omega
     have HLN:Hid (lvN m za (k+1) ((lo+(i:Int))::t)=zS m za k ((lo+(i:Int))::t)):=Zh rfl;rw [HLN.out] at hk4 hk2;have HCN:Hid (∀(W:World) (A:Option Addr) (c:Nat),Ints W A 2 .i64 ((lo+(i:Int))::t)->Ext wr W->Calls Tryz.prog 85 #[.agg #[.int .i64 n,.slice SB n sc,.slice DB (n+1) dc],.int .i64 za,.slice A (q+1) c,.slice A3 (len+(ZV m za (k+1) t i).length) c3] W (zb2 W zd (len+(ZV m za (k+1) t i).length) (its++jr m (ZV m za (k+1) t i)) m (zS m za k ((lo+(i:Int))::t)))):=Zh (fun W A c hI e=>
      IH.out k (by omega) W SB DB A A3 sc dc c c3 (q+1) _ _ vs3 _ (by have :=HQ.out;omega) (hF.ext e) hI (by rw [List.length_cons,HTL.out]) (zpb.out i hlt) (HK1.out i hlt) (HOI.out.ext e) (HVI.out.ext e) (Nat.le_trans zq6 e.size) (by omega))
     have HK4':=Zh hk4;unfold zb2 at HCN;obtain ⟨t2,ht2⟩:∃t2,t2=(lo+(i:Int))::t:=⟨_,rfl⟩;rw [<-ht2] at HLG HCN HK4';clear hF hT hG hk4 hk2 ht2 hfr HLN;generalize zS m za k t2=L2 at*
     go_wp2_with (first
      |(go_at_call 109;refine (HLG.out _ Zi).mono ?_;rintro e w5 ⟨A5,c5,rfl,hI5,h51,h52,hs5⟩;obtain ⟨x0,x1,x2⟩:=HEX.out w5 Zi;have ztS:Ext wr w5:=Zi)
      |(go_at_call 85;refine (HCN.out _ _ _ hI5 Zi).mono ?_;rintro e w6 ⟨A6,c6,vs6,rfl,hO6,hV6,hG6⟩;have HO6:=Zh hO6;have HV6:=Zh hV6;have HG6:=Zh ((Grow.of_ext ztS zq6).stepI hG6);clear hO6 hV6 hG6))
     refine ⟨⟨i+1,A6,c6,vs6,by omega,by first |rfl |(congr 1;omega),?_,Zh ?_,Zh ?_,Zh (HGI.out.stepI HG6.out)⟩,by simp [intOf]<;>omega⟩
     ·rw [HK4'.out,List.length_append,<-Nat.add_assoc]
     ·rw [HK4'.out,List.length_append,<-Nat.add_assoc];exact HO6.out
     ·rw [HK4'.out,zhS,<-List.append_assoc];exact HV6.out
   ·obtain rfl:i=J:=by omega
    have zqK:decide (lo+(i:Int)<=hi)=false:=by simp;omega
    go_wp2_with fail
    go_ret;exact ⟨A3,c3,vs3,rfl,HOI.out,HVI.out,HG0.out.stepI HGI.out⟩
end
section
open Go.RowKit
open La
theorem Arr.take {w:World} {A:Option Addr} {e:TypeId} {vs:List Value} (h:Arr w A e vs) (k:Nat):Arr w A e (vs.take k):=fun h0=>by
 obtain ⟨b,o,cs,fr,hA,hb,hc⟩:=h (by rw [List.length_take] at h0;omega);refine ⟨b,o,cs,fr,hA,hb,fun j u hu=>?_⟩;rw [List.getElem?_take] at hu;split at hu
 ·exact hc _ _ hu
 ·cases hu
theorem ItV.one {w:World} {vs:List Value} {its:List (Int×List Int)} (h:ItV w vs its):∀u∈vs,u.oneCell'=true:=fun u hu=>by
 obtain ⟨j,hj⟩:=List.getElem?_of_mem hu;have hjl:=(Zg.1 hj).1;have hl:=h.1;have hi:j / 2<its.length:=by omega
 obtain ⟨B,c,a1,a2,-⟩:=h.2 (j / 2) its[j / 2] (Ze hi);rcases Nat.mod_two_eq_zero_or_one j with e |e
 ·rw [show j / 2*2=j by omega,hj] at a1;injection a1 with a1
  rw [a1];rfl
 ·rw [show j / 2*2+1=j by omega,hj] at a2;injection a2 with a2
  rw [a2];rfl
theorem ItV.take {w:World} {vs:List Value} {its:List (Int×List Int)} (h:ItV w vs its) (k:Nat):ItV w (vs.take (k*2)) (its.take k):=by
 refine ⟨by rw [List.length_take,List.length_take,h.1];omega,fun i p hp=>?_⟩;rw [List.getElem?_take] at hp;split at hp
 ·rename_i hi
  obtain ⟨B,c,a1,a2,a3⟩:=h.2 i p hp;exact ⟨B,c,by rw [List.getElem?_take,if_pos (by omega)];exact a1,by rw [List.getElem?_take,if_pos (by omega)];exact a2,a3⟩
 ·cases hp
theorem ItV.drop {w:World} {vs:List Value} {its:List (Int×List Int)} (h:ItV w vs its) (k:Nat):ItV w (vs.drop (k*2)) (its.drop k):=by
 refine ⟨by rw [List.length_drop,List.length_drop,h.1];omega,fun i p hp=>?_⟩;rw [List.getElem?_drop] at hp;obtain ⟨B,c,a1,a2,a3⟩:=h.2 _ p hp;exact ⟨B,c,by rw [List.getElem?_drop,show k*2+i*2=(k+i)*2 by omega];exact a1,by rw [List.getElem?_drop,show k*2+(i*2+1)=(k+i)*2+1 by omega];exact a2,a3⟩
theorem ItV.append {w:World} {vs vs':List Value} {its its':List (Int×List Int)} (h:ItV w vs its) (h':ItV w vs' its'):ItV w (vs++vs') (its++its'):=by
 refine ⟨by simp [h.1,h'.1];omega,fun i p hp=>?_⟩;have hl:=h.1;rcases Zl i its.length with hlt |hge
 ·rw [List.getElem?_append_left hlt] at hp;obtain ⟨B,c,a1,a2,a3⟩:=h.2 i p hp;exact ⟨B,c,by rw [List.getElem?_append_left (by omega)];exact a1,by rw [List.getElem?_append_left (by omega)];exact a2,a3⟩
 ·rw [List.getElem?_append_right hge] at hp;obtain ⟨B,c,a1,a2,a3⟩:=h'.2 _ p hp;exact ⟨B,c,by rw [List.getElem?_append_right (by omega),show i*2-vs.length=(i-its.length)*2 by omega];exact a1,by rw [List.getElem?_append_right (by omega),show i*2+1-vs.length=(i-its.length)*2+1 by omega];exact a2,a3⟩
theorem zoK {l:List (Int×List Int)} {x:Int×List Int} (h:ZU l x=l.length):zZ l x=l.take (ZU l x)++x::l.drop (ZU l x):=by
 unfold zZ;rw [h];simp
theorem zoL {l:List (Int×List Int)} {x y:Int×List Int} (h:l[ZU l x]? =some y) (hl:z8 x y=true):zZ l x=l.take (ZU l x)++x::l.drop (ZU l x):=by
 unfold zZ;rw [h];simp [hl]
theorem zoM {l:List (Int×List Int)} {x y:Int×List Int} (h:l[ZU l x]? =some y) (hl:z8 x y=false):zZ l x=l:=by
 unfold zZ;rw [h];simp [hl]
def zb3 (w:World) (zd:Nat) (its:List (Int×List Int)) (e:Ending) (w':World):Prop:=∃A c vs,e= .returned (.slice A its.length c)/\Own w' zd 45 2 A its.length c vs/\ItV w' vs its/\Ext w w'
set_option maxRecDepth 20000 in
theorem zoN {w:World} {zd len lc xc:Nat} {LA XA:Option Addr} {vs:List Value} {its:List (Int×List Int)} {a:Int} {x:List Int} (hO:Own w zd 45 2 LA len lc vs) (hV:ItV w vs its) (hbs:zd<=w.heap.size) (hl:its.length<=1000000) (hX:Ints w XA 2 .i64 x) (hxc:x.length<=xc) (zr9:xc<=9223372036854775807) (hx8:x.length<=1000) (hr8:∀p∈its,p.2.length<=1000):
  Calls Tryz.prog 86 #[.slice LA len lc,.agg #[.int .i64 a,.slice XA x.length xc]] w (zb3 w zd (zZ its (a,x))):=by
 have zp9:its.length=len:=by have :=hO.len;have :=hV.1;omega
 have zqm:=hO.cap;have zsa:=hO.arr;have hE:∀k p,its[k]? =some p->∃b o B c,LA=some ⟨b,o,none⟩/\w.cell? ⟨b,o+k*2,none⟩=some (.int .i64 p.1)/\w.cell? ⟨b,o+k*2+1,none⟩=some (.slice B p.2.length c)/\Ints w B 2 .i64 p.2/\b<w.heap.size:=fun k p hp=>by
  obtain ⟨B,c,a1,a2,a3,-⟩:=hV.2 k p hp;obtain ⟨b,o,hA,h1,h2⟩:=zsa.at_ a1;obtain ⟨b',o',hA',h1',-⟩:=zsa.at_ a2;rw [hA] at hA';injection hA' with hA'
  injection hA' with z1 z2
  subst z1 z2;exact ⟨b,o,B,c,hA,h1,by rw [Nat.add_assoc];exact h1',a3,h2⟩
 have HE:=Zh hE;have HV:=Zh hV;have HO:=Zh hO;have HAR:=Zh zsa;have HX:=Zh hX;have HR8:=Zh hr8;have HLN:=Zh zp9;obtain ⟨xl,hxl⟩:∃xl,xl=x.length:=⟨_,rfl⟩;have HXL:=Zh hxl;rw [<-hxl] at hxc hx8 |-
 rw [zp9] at hl;clear hE hV hO zsa hX hr8 zp9 hxl;unfold zb3;have hxb:Ext w (w.alloc (.cells #[.int .i64 a,.slice XA xl xc] 45)):=Zi;go_enter Tryz.func86,Tryz.ntmps86;go_wp2_with fail
 go_loopw [5] (fun i wr=>∃k:Nat,k<=len/\i= .int .i64 k/\Hid (∀j y,j<k->its[j]? =some y->z8 y (a,x)=true)/\Ext (w.alloc (.cells #[.int .i64 a,.slice XA xl xc] 45)) wr) (fun i _=>len-(intOf i).toNat)
 case atStart=>exact ⟨0,by omega,rfl,Zh (fun j y hj=>absurd hj (by omega)),Zi⟩
 case round=>
  obtain ⟨k,hk,rfl,HP,hxr⟩:=hrel;have zqx:Ext w wr:=hxb.trans hxr;have HKX:Hid (∀W,Ext wr W->W.cell? ⟨w.heap.size,0,none⟩=some (.int .i64 a)/\W.cell? ⟨w.heap.size,1,none⟩=some (.slice XA xl xc)):=Zh (fun W e=>by
   obtain ⟨p1,p2,-⟩:=zK (zg (hxr.trans e) (heap_alloc_new w _));exact ⟨p1,p2⟩)
  by_cases hlt:k<len
  ·obtain ⟨y,hy⟩:∃y,its[k]? =some y:=⟨_,Ze (by rw [HLN.out];exact hlt)⟩;obtain ⟨b,o,B,c,rfl,z1,z2,hI,z3⟩:=HE.out k y hy;have hy8:=HR8.out y (Zm hy);have oB:Old b w:=⟨z3⟩;have HZ:=Zh (And.intro z1 z2);obtain ⟨ya,yx⟩:=y;simp only at z1 z2 hI hy8;have hkd:decide ((k:Int)<(len:Int))=true:=by simp;omega
   have HLE:Hid (∀W,Ext w W->Calls Tryz.prog 32 #[.agg #[.int .i64 ya,.slice B yx.length c],.agg #[.int .i64 a,.slice XA xl xc]] W (zz W (.bool (z8 (ya,yx) (a,x))))):=Zh (fun W e=>by
    rw [HXL.out];exact zhx hI HX.out (by omega) (by rw [<-HXL.out];omega))
   have HHD:Hid (∀W,Ext wr W->W.cell? ⟨w.heap.size,0,none⟩=some (.int .i64 a)/\W.cell? ⟨w.heap.size,1,none⟩=some (.slice XA xl xc)/\W.cell? ⟨b,o+k*2,none⟩=some (.int .i64 ya)/\W.cell? ⟨b,o+k*2+1,none⟩=some (.slice B yx.length c)):=Zh (fun W e=>⟨(HKX.out W e).1,(HKX.out W e).2,(zi w (hx:=zqx.trans e)).trans HZ.out.1,(zi w (hx:=zqx.trans e)).trans HZ.out.2⟩)
   cases zsb:z8 (ya,yx) (a,x) with
   |true=>
    have HPN:Hid (∀j y,j<k+1->its[j]? =some y->z8 y (a,x)=true):=Zh (fun j y hj hjy=>by
     rcases Zl j k with h |h
     ·exact HP.out j y h hjy
     ·obtain rfl:j=k:=by omega
      rw [hy] at hjy;injection hjy with hjy
      rw [<-hjy];exact zsb)
    rw [zsb] at HLE;clear z1 z2 hI hy;go_wp2_with fail
    go_region_held3 (fun w'=>w'.cell? ⟨w.heap.size,0,none⟩=some (.int .i64 a)/\w'.cell? ⟨w.heap.size,1,none⟩=some (.slice XA xl xc)/\w'.cell? ⟨b,o+k*2,none⟩=some (.int .i64 ya)/\w'.cell? ⟨b,o+k*2+1,none⟩=some (.slice B yx.length c))
     (exact HHD.out _ Zi)
     ((go_at_call 32;refine (HLE.out _ Zi).mono ?_;rintro e w5 ⟨rfl,hs5⟩))
    all_goals
     go_wp2_with fail
     exact ⟨⟨k+1,by omega,by go_num,HPN,hxr.trans Zi⟩,by simp [intOf]<;>omega⟩
   |false=>
    have hpi:=zdL its (a,x) k HP.out (by rw [HLN.out];omega) (fun y' hy'=>by rw [hy] at hy';injection hy' with hy';rw [<-hy'];exact zsb);have HPI:=Zh hpi;have HY:=Zh hy;have HII:=Zh hI;rw [zsb] at HLE;clear z1 z2 hI hpi hy;go_wp2_with fail
    go_region_held3 (fun w'=>w'.cell? ⟨w.heap.size,0,none⟩=some (.int .i64 a)/\w'.cell? ⟨w.heap.size,1,none⟩=some (.slice XA xl xc)/\w'.cell? ⟨b,o+k*2,none⟩=some (.int .i64 ya)/\w'.cell? ⟨b,o+k*2+1,none⟩=some (.slice B yx.length c))
     (exact HHD.out _ Zi)
     ((go_at_call 32;refine (HLE.out _ Zi).mono ?_;rintro e w5 ⟨rfl,hs5⟩))
    have hx5:Ext wr w5:=Zi;have zrc:Ext w w5:=zqx.trans hx5;have zpp:Hid (∀W,Ext w W->Calls Tryz.prog 32 #[.agg #[.int .i64 a,.slice XA xl xc],.agg #[.int .i64 ya,.slice B yx.length c]] W (zz W (.bool (z8 (a,x) (ya,yx))))):=Zh (fun W e=>by
     rw [HXL.out];exact zhx HX.out HII.out (by rw [<-HXL.out];omega) (by omega))
    cases hl2:z8 (a,x) (ya,yx) with
    |false=>
     have HPU:Hid (zZ its (a,x)=its):=Zh (zoM (y:=(ya,yx)) (by rw [HPI.out];exact HY.out) hl2);rw [hl2] at zpp;go_wp2_with fail
     go_region_held3 (fun w'=>w'.cell? ⟨w.heap.size,0,none⟩=some (.int .i64 a)/\w'.cell? ⟨w.heap.size,1,none⟩=some (.slice XA xl xc)/\w'.cell? ⟨b,o+k*2,none⟩=some (.int .i64 ya)/\w'.cell? ⟨b,o+k*2+1,none⟩=some (.slice B yx.length c))
      (exact HHD.out _ (hx5.trans Zi))
      ((go_at_call 32;refine (zpp.out _ Zi).mono ?_;rintro e w6 ⟨rfl,hs6⟩))
     have hx6:Ext w w6:=zrc.trans Zi;go_wp2_with fail
     go_ret;rw [HPU.out,HLN.out];exact ⟨_,lc,vs,rfl,HO.out.ext (hx6.trans Zi),HV.out.ext (hx6.trans Zi),hx6.trans Zi⟩
    |true=>
     have HPU:Hid (zZ its (a,x)=its.take k++((a,x)::its.drop k)):=Zh (by
      have h:=zoL (l:=its) (x:=(a,x)) (y:=(ya,yx)) (by rw [HPI.out];exact HY.out) hl2;rwa [HPI.out] at h)
     rw [hl2] at zpp;go_wp2_with fail
     go_region_held3 (fun w'=>w'.cell? ⟨w.heap.size,0,none⟩=some (.int .i64 a)/\w'.cell? ⟨w.heap.size,1,none⟩=some (.slice XA xl xc)/\w'.cell? ⟨b,o+k*2,none⟩=some (.int .i64 ya)/\w'.cell? ⟨b,o+k*2+1,none⟩=some (.slice B yx.length c))
      (exact HHD.out _ (hx5.trans Zi))
      ((go_at_call 32;refine (zpp.out _ Zi).mono ?_;rintro e w6 ⟨rfl,hs6⟩))
     have hx6:Ext w w6:=zrc.trans Zi;have zrv:Ext wr w6:=hx5.trans Zi;have hvt:(vs.take (k*2)).length=k*2:=by rw [List.length_take];have :=HO.out.len;omega
     have hvd:(vs.drop (k*2)).length=(len-k)*2:=by rw [List.length_drop];have :=HO.out.len;omega
     have hck:lc≠k:=by omega
     have zv4:w.heap.size<=w6.heap.size:=hx6.size;have HVT:=Zh (And.intro hvt hvd);have HON:=Zh HV.out.one;clear hvt hvd;go_wp2_with (first
      |(have hh:=HO8;clear hh;at_builtin;go_loud (refine zI _ rfl _ _ 77 rfl w6.heap.size 45 (.agg #[.int .i64 0,.slice none 0 0]) 2 32 Tryz.underlying77 Qu rfl (by omega) (by omega) A8 (k+1) c8 _ rfl HO8.out _ (len-k) (lc-k) (vs.drop (k*2)) rfl ((HAR.out.drop (k*2)).ext (hx6.trans zqP)) HVT.out.2 (fun u hu=>HON.out u (List.mem_of_mem_drop hu)) (by omega) (by have :=zqP.size;omega) ?_);intro A9 c9 w9 zp7 hg;have HO9:=Zh zp7;have hx9:Ext w6 w9:=hg.ext zqP Zr;clear zp7 hg)
      |(have hh:=HO7;clear hh;at_builtin;go_loud (refine zI _ rfl _ _ 77 rfl w6.heap.size 45 (.agg #[.int .i64 0,.slice none 0 0]) 2 32 Tryz.underlying77 Qu rfl (by omega) (by omega) A7 k c7 _ rfl (HO7.out.ext Zi) (some ⟨w7.heap.size,0,none⟩) 1 1 [.int .i64 a,.slice XA xl xc] rfl (Arr.new w7 45 #[.int .i64 a,.slice XA xl xc]) (by simp) (by simp [Value.oneCell']) (by omega) (by have :=zqF.size;simp;omega) ?_);intro A8 c8 w8 zp7 hg;have HO8:=Zh zp7;have zqP:Ext w6 w8:=hg.ext (zqF.trans Zi) Zr;clear zp7 hg)
      |(at_builtin;go_loud (refine zI _ rfl _ _ 77 rfl w6.heap.size 45 (.agg #[.int .i64 0,.slice none 0 0]) 2 32 Tryz.underlying77 Qu rfl (by omega) (by omega) none 0 0 [] rfl (Own.nil _ _ _ _) _ k lc (vs.take (k*2)) rfl ((HAR.out.ext (hx6.trans Zi)).take (k*2)) HVT.out.1 (fun u hu=>HON.out u (List.mem_of_mem_take hu)) (by omega) (by simp) ?_);intro A7 c7 w7 zp7 hg;rw [Nat.zero_add,List.nil_append] at zp7;rw [Nat.zero_add];have HO7:=Zh zp7;have zqF:Ext w6 w7:=hg.ext Zi (by simp);obtain ⟨x0,x1⟩:=HKX.out w7 (zrv.trans zqF);clear zp7 hg))
     have hpl:(zZ its (a,x)).length=k+1+(len-k):=by
      rw [HPU.out,List.length_append,List.length_cons,List.length_take,List.length_drop,HLN.out];omega
     have zqS:Ext w w9:=hx6.trans hx9;have zqJ:ItV w [.int .i64 a,.slice XA xl xc] [(a,x)]:=by
      have h:=ItV.snoc (a:=a) (ItV.nil w) HX.out (by rw [<-HXL.out];exact hxc) zr9;rw [<-HXL.out] at h;exact h
     have hit:ItV w (vs.take (k*2)++[.int .i64 a,.slice XA xl xc]++vs.drop (k*2)) (zZ its (a,x)):=by
      have h:=((HV.out.take k).append zqJ).append (HV.out.drop k);rw [HPU.out];simpa [List.append_assoc] using h
     rw [<-hpl] at HO9 |-
     go_ret;exact ⟨A9,c9,_,rfl,(HO9.out.lower (Nat.le_trans hbs hx6.size)).ext Zi,hit.ext (zqS.trans Zi),zqS.trans Zi⟩
  ·obtain rfl:k=len:=by omega
   have hpi:=zdL its (a,x) k HP.out (by rw [HLN.out];omega) (fun y' hy'=>by rw [List.getElem?_eq_none (by rw [HLN.out];omega)] at hy';cases hy');have HPU:Hid (zZ its (a,x)=its.take k++((a,x)::its.drop k)):=Zh (by
    have h:=zoK (l:=its) (x:=(a,x)) (by rw [hpi,HLN.out]);rwa [hpi] at h)
   have hkd:decide ((k:Int)<(k:Int))=false:=by simp
   clear hpi hlt hk;go_wp2_with fail
   go_quiet (fail)
   go_wp2_with fail
   go_quiet (fail)
   rename_i nq0 Ka ha Kb hb
   have zrv:Ext wr ((wr.drewN nq0).drewN nq):=Zi;have hx6:Ext w ((wr.drewN nq0).drewN nq):=zqx.trans zrv;generalize (wr.drewN nq0).drewN nq=w6 at*
   have zpf:Hid (zZ its (a,x)=its++[(a,x)]):=Zh (by
    rw [HPU.out,List.take_of_length_le (by rw [HLN.out];exact Zr),List.drop_eq_nil_of_le (by rw [HLN.out];exact Zr)])
   have HVL:Hid (vs.length=k*2):=Zh HO.out.len;have HON:=Zh HV.out.one;rcases HO.out.2 with ⟨hv,hn⟩ |⟨g,cap,cur,hv,-⟩
   ·injection hv with h1 h2 h3
    subst h1 h2 h3;go_wp2_with (first
     |(have hh:=HO8;clear hh;at_builtin;go_loud (refine zI _ rfl _ _ 77 rfl w6.heap.size 45 (.agg #[.int .i64 0,.slice none 0 0]) 2 32 Tryz.underlying77 Qu rfl (by omega) (by omega) A8 (0+1) c8 _ rfl HO8.out _ 0 _ [] rfl Arr.nil rfl (by simp) (by omega) (by have :=zqP.size;omega) ?_);intro A9 c9 w9 zp7 hg;have HO9:=Zh zp7;have hx9:Ext w6 w9:=hg.ext zqP Zr;clear zp7 hg)
     |(have hh:=HO7;clear hh;at_builtin;go_loud (refine zI _ rfl _ _ 77 rfl w6.heap.size 45 (.agg #[.int .i64 0,.slice none 0 0]) 2 32 Tryz.underlying77 Qu rfl (by omega) (by omega) A7 0 c7 _ rfl (HO7.out.ext Zi) (some ⟨w7.heap.size,0,none⟩) 1 1 [.int .i64 a,.slice XA xl xc] rfl (Arr.new w7 45 #[.int .i64 a,.slice XA xl xc]) (by simp) (by simp [Value.oneCell']) (by omega) (by have :=zqF.size;simp;omega) ?_);intro A8 c8 w8 zp7 hg;have HO8:=Zh zp7;have zqP:Ext w6 w8:=hg.ext (zqF.trans Zi) Zr;clear zp7 hg)
     |(at_builtin;go_loud (refine zI _ rfl _ _ 77 rfl w6.heap.size 45 (.agg #[.int .i64 0,.slice none 0 0]) 2 32 Tryz.underlying77 Qu rfl (by omega) (by omega) none 0 0 [] rfl (Own.nil _ _ _ _) _ 0 _ vs rfl (HO.out.arr.ext hx6) HVL.out (fun u hu=>HON.out u hu) (by omega) (by simp) ?_);intro A7 c7 w7 zp7 hg;rw [Nat.zero_add,List.nil_append] at zp7;rw [Nat.zero_add];have HO7:=Zh zp7;have zqF:Ext w6 w7:=hg.ext Zi (by simp);obtain ⟨x0,x1⟩:=HKX.out w7 (zrv.trans zqF);clear zp7 hg))
    have zqS:Ext w w9:=hx6.trans hx9;have zqJ:ItV w [.int .i64 a,.slice XA xl xc] [(a,x)]:=by
     have h:=ItV.snoc (a:=a) (ItV.nil w) HX.out (by rw [<-HXL.out];exact hxc) zr9;rw [<-HXL.out] at h;exact h
    have hit:ItV w (vs++[.int .i64 a,.slice XA xl xc]++[]) (zZ its (a,x)):=by
     rw [List.append_nil,zpf.out];exact HV.out.append zqJ
    have hpl:(zZ its (a,x)).length=0+1:=by rw [zpf.out,List.length_append,HLN.out];rfl
    have h9:=HO9.out;rw [Nat.add_zero] at h9;rw [hpl];go_ret;exact ⟨A9,c9,rfl,_,(h9.lower (Nat.le_trans hbs hx6.size)).ext Zi,hit.ext (zqS.trans Zi),zqS.trans Zi⟩
   ·injection hv with h1 h2 h3
    subst h1 h3;by_cases hcc:lc=k
    ·subst hcc;go_wp2_with (first
      |(have hh:=HO8;clear hh;at_builtin;go_loud (refine zI _ rfl _ _ 77 rfl w6.heap.size 45 (.agg #[.int .i64 0,.slice none 0 0]) 2 32 Tryz.underlying77 Qu rfl (by omega) (by omega) A8 (lc+1) c8 _ rfl HO8.out _ 0 _ [] rfl Arr.nil rfl (by simp) (by omega) (by have :=zqP.size;omega) ?_);intro A9 c9 w9 zp7 hg;have HO9:=Zh zp7;have hx9:Ext w6 w9:=hg.ext zqP Zr;clear zp7 hg)
      |(have hh:=HO7;clear hh;at_builtin;go_loud (refine zI _ rfl _ _ 77 rfl w6.heap.size 45 (.agg #[.int .i64 0,.slice none 0 0]) 2 32 Tryz.underlying77 Qu rfl (by omega) (by omega) A7 lc c7 _ rfl (HO7.out.ext Zi) (some ⟨w7.heap.size,0,none⟩) 1 1 [.int .i64 a,.slice XA xl xc] rfl (Arr.new w7 45 #[.int .i64 a,.slice XA xl xc]) (by simp) (by simp [Value.oneCell']) (by omega) (by have :=zqF.size;simp;omega) ?_);intro A8 c8 w8 zp7 hg;have HO8:=Zh zp7;have zqP:Ext w6 w8:=hg.ext (zqF.trans Zi) Zr;clear zp7 hg)
      |(at_builtin;go_loud (refine zI _ rfl _ _ 77 rfl w6.heap.size 45 (.agg #[.int .i64 0,.slice none 0 0]) 2 32 Tryz.underlying77 Qu rfl (by omega) (by omega) none 0 0 [] rfl (Own.nil _ _ _ _) _ lc _ vs rfl (HO.out.arr.ext hx6) HVL.out (fun u hu=>HON.out u hu) (by omega) (by simp) ?_);intro A7 c7 w7 zp7 hg;rw [Nat.zero_add,List.nil_append] at zp7;rw [Nat.zero_add];have HO7:=Zh zp7;have zqF:Ext w6 w7:=hg.ext Zi (by simp);obtain ⟨x0,x1⟩:=HKX.out w7 (zrv.trans zqF);clear zp7 hg))
     have zqS:Ext w w9:=hx6.trans hx9;have zqJ:ItV w [.int .i64 a,.slice XA xl xc] [(a,x)]:=by
      have h:=ItV.snoc (a:=a) (ItV.nil w) HX.out (by rw [<-HXL.out];exact hxc) zr9;rw [<-HXL.out] at h;exact h
     have hit:ItV w (vs++[.int .i64 a,.slice XA xl xc]++[]) (zZ its (a,x)):=by
      rw [List.append_nil,zpf.out];exact HV.out.append zqJ
     have hpl:(zZ its (a,x)).length=lc+1:=by rw [zpf.out,List.length_append,HLN.out];rfl
     have h9:=HO9.out;rw [Nat.add_zero] at h9;rw [hpl];go_ret;exact ⟨A9,c9,rfl,_,(h9.lower (Nat.le_trans hbs hx6.size)).ext Zi,hit.ext (zqS.trans Zi),zqS.trans Zi⟩
    ·go_wp2_with (first
      |(have hh:=HO8;clear hh;at_builtin;go_loud (refine zI _ rfl _ _ 77 rfl w6.heap.size 45 (.agg #[.int .i64 0,.slice none 0 0]) 2 32 Tryz.underlying77 Qu rfl (by omega) (by omega) A8 (k+1) c8 _ rfl HO8.out _ 0 _ [] rfl Arr.nil rfl (by simp) (by omega) (by have :=zqP.size;omega) ?_);intro A9 c9 w9 zp7 hg;have HO9:=Zh zp7;have hx9:Ext w6 w9:=hg.ext zqP Zr;clear zp7 hg)
      |(have hh:=HO7;clear hh;at_builtin;go_loud (refine zI _ rfl _ _ 77 rfl w6.heap.size 45 (.agg #[.int .i64 0,.slice none 0 0]) 2 32 Tryz.underlying77 Qu rfl (by omega) (by omega) A7 k c7 _ rfl (HO7.out.ext Zi) (some ⟨w7.heap.size,0,none⟩) 1 1 [.int .i64 a,.slice XA xl xc] rfl (Arr.new w7 45 #[.int .i64 a,.slice XA xl xc]) (by simp) (by simp [Value.oneCell']) (by omega) (by have :=zqF.size;simp;omega) ?_);intro A8 c8 w8 zp7 hg;have HO8:=Zh zp7;have zqP:Ext w6 w8:=hg.ext (zqF.trans Zi) Zr;clear zp7 hg)
      |(at_builtin;go_loud (refine zI _ rfl _ _ 77 rfl w6.heap.size 45 (.agg #[.int .i64 0,.slice none 0 0]) 2 32 Tryz.underlying77 Qu rfl (by omega) (by omega) none 0 0 [] rfl (Own.nil _ _ _ _) _ k _ vs rfl (HO.out.arr.ext hx6) HVL.out (fun u hu=>HON.out u hu) (by omega) (by simp) ?_);intro A7 c7 w7 zp7 hg;rw [Nat.zero_add,List.nil_append] at zp7;rw [Nat.zero_add];have HO7:=Zh zp7;have zqF:Ext w6 w7:=hg.ext Zi (by simp);obtain ⟨x0,x1⟩:=HKX.out w7 (zrv.trans zqF);clear zp7 hg))
     have zqS:Ext w w9:=hx6.trans hx9;have zqJ:ItV w [.int .i64 a,.slice XA xl xc] [(a,x)]:=by
      have h:=ItV.snoc (a:=a) (ItV.nil w) HX.out (by rw [<-HXL.out];exact hxc) zr9;rw [<-HXL.out] at h;exact h
     have hit:ItV w (vs++[.int .i64 a,.slice XA xl xc]++[]) (zZ its (a,x)):=by
      rw [List.append_nil,zpf.out];exact HV.out.append zqJ
     have hpl:(zZ its (a,x)).length=k+1:=by rw [zpf.out,List.length_append,HLN.out];rfl
     have h9:=HO9.out;rw [Nat.add_zero] at h9;rw [hpl];go_ret;exact ⟨A9,c9,rfl,_,(h9.lower (Nat.le_trans hbs hx6.size)).ext Zi,hit.ext (zqS.trans Zi),zqS.trans Zi⟩
theorem zoO {m:List (List Int)} (hr:RedOK m) {b:Int} (hb:0<=b) (hb1:b<1073741824) (k:Nat):∀t:List Int,k<m.length->t.length=m.length-1-k->0<=left (ent m) b (k+1) t->
  ((zS m b k t).length:Int)=zR (ZJ m b k t) (m.length-1):=by
 induction k with
 |zero=>
  intro t hk ht h0;obtain ⟨v1,v2,-⟩:=zaZ hr hb hb1 hk ht h0;rw [zdS,zS];simp only [zR,List.length_map,List.length_range];rw [if_pos (by omega)];unfold zH;omega
 |succ k ih=>
  intro t hk ht h0;have key:∀q:Nat,q<=zH m b (k+1) t->(((List.range q).flatMap fun (j:Nat)=>zS m b k ((zj m b (k+1) t+(j:Int))::t)).length:Int)=zR (Zv m b k t q) (m.length-1):=by
   intro q;induction q with
   |zero=>intro _;simp [Zv,zR]
   |succ q ihq=>
    intro hq;have a1:=ihq (by omega);have b1:=ih ((zj m b (k+1) t+(q:Int))::t) (by omega) (by simp [ht];omega) (qU hr t hk ht h0 (j:=q) (by unfold zH zB zj at hq;unfold zP;omega));rw [List.range_succ,List.flatMap_append,List.flatMap_singleton,zdR,zdj,List.length_append,Int.natCast_add];omega
  have k1:=key _ Zr;rw [zhz hr hk b t ht,zS];simp only [zR];rw [if_neg (by omega)];omega
theorem zoP {m:List (List Int)} (zqi:Zp m=true) {b:Nat} (hb1:(b:Int)<1073741824):((zS m b (m.length-1) []).length:Int)<=Z7 m b:=by
 have hr:=ZF zqi;have hl:=ZR hr.small;have hst:=(zbC zqi (b:=b) hb1).1;have h1:=zoO hr (b:=(b:Int)) (by omega) hb1 (m.length-1) [] (by omega) (by simp) (Qi hr (by omega));have h2:=zhF hr (b:=(b:Int)) (by omega);have h3:(jo m b).getD (m.length-1) 0=zR (ZJ m b (m.length-1) []) (m.length-1):=by
  rw [h2,zog (by simp;omega)];simp [List.getD,show m.length-1<m.length by omega]
 have h4:=za2 (cs:=jo m b) (fun x hx=>by have :=hst.one x hx;omega) (m.length-1);have h5:=hst.sum;omega
def JA (m:List (List Int)) (l:List (Int×List Int)) (x:List Int):List (Int×List Int):=if 0<zv x then zZ l (zu m x,x) else l
theorem zoQ (m:List (List Int)) (xs:List (List Int)) (x:List Int):z9 m (xs++[x])=JA m (z9 m xs) x:=by
 unfold z9 JA;rw [List.foldl_append];rfl
theorem zoR (l:List (Int×List Int)) (x:Int×List Int):(zZ l x).length<=l.length+1:=by
 unfold zZ;split
 ·split
  ·simp only [List.length_append,List.length_take,List.length_cons,List.length_drop];omega
  ·omega
 ·simp
theorem zoS (m:List (List Int)) (xs:List (List Int)):∀l:List (Int×List Int),(xs.foldl (fun l x=>if 0<zv x then zZ l (zu m x,x) else l) l).length<=l.length+xs.length:=by
 induction xs with
 |nil=>intro l;exact Zr
 |cons x xs ih=>
  intro l;rw [List.foldl_cons,List.length_cons];refine Nat.le_trans (ih _) ?_;split
  ·have :=zoR l (zu m x,x);omega
  ·omega
theorem zhT (m:List (List Int)) (xs:List (List Int)):(z9 m xs).length<=xs.length:=by
 have :=zoS m xs [];unfold z9;simpa using this
theorem zoT {m:List (List Int)} {xs:List (List Int)}:∀p∈z9 m xs,p.2∈xs:=fun p hp=>by
 rcases ((zhk m xs [] List.Pairwise.nil).2 p).1 hp with h |⟨x,hx,-,rfl⟩
 ·simp at h
 ·exact hx
theorem zhU {x:List Int} (h:zv x≠0):zJ x=x↔0<zv x:=by
 constructor
 ·intro e;have :=zga x h;rwa [e] at this
 ·exact zg5
def zb4 (w:World) (its:List (Int×List Int)) (e:Ending) (w':World):Prop:=∃A c vs,e= .returned (.slice A its.length c)/\Own w' w.heap.size 45 2 A its.length c vs/\ItV w' vs its/\Step w w'
def zdY (w w3:World) (m xs:List (List Int)) (N:Nat) (s5 i:Value) (wr:World):Prop:=∃(k:Nat) (A5:Option Addr) (c5:Nat) (vs:List Value),k<=N/\i= .int .i64 k/\s5= .slice A5 (z9 m (xs.take k)).length c5/\Hid (Own wr w.heap.size 45 2 A5 (z9 m (xs.take k)).length c5 vs)/\Hid (ItV wr vs (z9 m (xs.take k)))/\Ext w3 wr
set_option maxRecDepth 20000 in
theorem zoU {w0 w:World} {A:Option Addr} {c n:Nat} {m:List (List Int)} {za:Int} (hM:Mat64 w0 A m) (hL:LLLed m) (h1:m.length=n) (hb:0<=za) (hb1:za<1073741824) (zqM:((zS m za (n-1) []).length)<=1000000) [hx:Ext w0 w]:
  Calls Tryz.prog 54 #[.slice A n c,.int .i64 za] w (zb4 w (z9 m (zS m za (n-1) []))):=by
 have hr:=ZF hL.red;have hn8:=hL.len8;have hn1:=hL.len1;have HOF:Hid (∀W,Ext w0 W->Calls Tryz.prog 62 #[.slice A n c] W (za0 W m n)):=Zh (fun W e=>zbW hM hL h1);have zqp:=Qi hr hb;have zqe:=zhi hr hb;rw [h1] at zqp zqe;obtain ⟨xs,hxs⟩:∃xs,xs=zS m za (n-1) []:=⟨_,rfl⟩;have HLV:Hid (∀(W:World) (SB DB:Option Addr) (sc dc:Nat),FrV W m SB DB->Calls Tryz.prog 85 #[.agg #[.int .i64 n,.slice SB n sc,.slice DB (n+1) dc],.int .i64 za,.slice none 0 0,.slice none 0 0] W (fun e w'=>∃A c vs,e= .returned (.slice A xs.length c)/\Arr w' A 45 vs/\ItV w' vs (jr m xs)/\Ext W w')):=Zh (fun W SB DB sc dc hF=>by
  have :=zoJ (zd:=W.heap.size) hL h1 hb hb1 (n-1) W SB DB none none sc dc 0 0 0 0 [] [] [] (by omega) hF Ints.nil rfl (fun a ha=>by simp at ha) zqp (Own.nil _ _ _ _) (ItV.nil _) Zr (by omega);refine this.mono ?_;rintro e w' ⟨A,c,vs,rfl,hO,hV,hG⟩;rw [<-hxs,Nat.zero_add,List.nil_append] at*
  exact ⟨A,c,vs,rfl,hO.arr,hV,hG.ext (Ext.refl _) Zr⟩)
 rw [<-hxs] at zqM |-
 rw [<-hxs] at zqe;have HXS:Hid (∀x∈xs,x.length=n/\(∀a∈x,-1099511627776<=a/\a<=1099511627776)):=Zh (fun x hx=>by
  obtain ⟨h2,h3⟩:=(zqe x).1 hx;refine ⟨h2,fun a ha=>?_⟩;have h4:=zf7 hr hb hb1 x (by omega) h3;obtain ⟨i,hi⟩:=List.getElem?_of_mem ha;have :=JO x i a hi;omega)
 have HTK:Hid (∀(k:Nat) (x:List Int),xs[k]? =some x->z9 m (xs.take (k+1))=JA m (z9 m (xs.take k)) x):=Zh (fun k x hk=>by rw [List.take_add_one,hk];exact zoQ m _ _);have HIL:Hid (∀k,(z9 m (xs.take k)).length<=1000000):=Zh (fun k=>by
  have h2:=zhT m (xs.take k);rw [List.length_take] at h2;omega)
 have HIM:Hid (∀k,∀p∈z9 m (xs.take k),p.2.length<=1000):=Zh (fun k p hp=>by
  have :=(HXS.out p.2 (List.mem_of_mem_take (zoT p hp))).1;omega)
 unfold zb4;have hn9:n<=8:=by omega
 clear hM hL hr zqp zqe hxs h1;go_enter Tryz.func54,Tryz.ntmps54;go_wp2_with (first
  |(go_at_call 62;refine (HOF.out _ Zi).mono ?_;rintro e w2 ⟨SB,sc,DB,dc,rfl,hF,-,-,-,-,hs2⟩)
  |(go_at_call 85;refine (HLV.out _ _ _ _ _ hF).mono ?_;rintro e w3 ⟨A3,c3,vs3,rfl,hA3,hV3,hx3⟩;have HA3:=Zh hA3;have HV3:=Zh hV3;have zqh:Ext w w3:=(Zi:Ext w w2).trans hx3;clear hA3 hV3))
 obtain ⟨N,hN⟩:∃N,N=xs.length:=⟨_,rfl⟩;have HN:=Zh hN;have hN6:N<=1000000:=by omega
 rw [<-hN];clear hN zqM;go_loopw [5,15] (fun s5 i wr=>zdY w w3 m xs N s5 i wr) (fun _ i _=>N-(intOf i).toNat)
 case atStart=>
  unfold zdY;exact ⟨0,none,0,[],by omega,rfl,rfl,Zh (Own.nil _ _ _ _),Zh (ItV.nil _),Zi⟩
 case round=>
  unfold zdY at hrel;obtain ⟨k,A5,c5,vs,hk,rfl,rfl,HO5,HV5,hxr⟩:=hrel;have zqx:Ext w wr:=zqh.trans hxr;by_cases hlt:k<N
  ·obtain ⟨x,hxk⟩:∃x,xs[k]? =some x:=⟨_,Ze (by rw [<-HN.out];exact hlt)⟩;obtain ⟨hxl,hxb⟩:=HXS.out x (Zm hxk);obtain ⟨B,cx,a1,a2,a3,a4,a5⟩:=HV3.out.2 k (zu m x,x) (by unfold jr;rw [List.getElem?_map,hxk];rfl);obtain ⟨b,o,rfl,z1,z3⟩:=HA3.out.at_ a1;obtain ⟨b',o',hA',z2,-⟩:=HA3.out.at_ a2;injection hA' with hA'
   injection hA' with y1 y2
   subst y1 y2;rw [<-Nat.add_assoc] at z2;simp only at a3 a4 z1 z2;have oB:Old b w3:=⟨z3⟩;have hc1:wr.cell? ⟨b,o+k*2,none⟩=some (.int .i64 (zu m x)):=(zi w3).trans z1;have hc2:wr.cell? ⟨b,o+k*2+1,none⟩=some (.slice B x.length cx):=(zi w3).trans z2;have HCA:=Zh (fun W (e:Ext w3 W)=>zn5 (w:=W) (c:=cx) a3 (by omega) hxb);have HT:=Zh (HTK.out k x hxk);have HIX:=Zh a3;unfold zdP at HCA;rw [hxl] at HCA hc2 a4
   have zpa:=Zh hxl;clear a1 a2 a3 z1 z2 hxk hxl hxb;obtain ⟨nv,hnv⟩:∃nv,nv=zu m x:=⟨_,rfl⟩;have HNV:=Zh hnv;rw [<-hnv] at hc1;clear hnv;by_cases hz:zv x=0
   ·have hps:JA m (z9 m (xs.take k)) x=z9 m (xs.take k):=by unfold JA;rw [if_neg (by omega)]
    have HPS:=Zh (HT.out.trans hps);clear hps;go_wp2_with (go_at_call 29;refine (HCA.out _ Zi).mono ?_;rintro e w5 (⟨-,rfl,hs5⟩ |⟨zqG,-⟩);(rotate_left;(exact absurd hz zqG)))
    refine ⟨⟨k+1,A5,c5,vs,by omega,by go_num,by rw [HPS.out],Zh ?_,Zh ?_,Zi⟩,by simp [intOf]<;>omega⟩
    ·rw [HPS.out];exact HO5.out.ext Zi
    ·rw [HPS.out];exact HV5.out.ext Zi
   ·by_cases hp:0<zv x
    ·have hcx:zJ x=x:=(zhU hz).2 hp;have hlx:zw x (zJ x)=0:=by rw [hcx];exact zbl x
     have HPS:Hid (z9 m (xs.take (k+1))=zZ (z9 m (xs.take k)) (zu m x,x)):=Zh (by rw [HT.out];unfold JA;rw [if_pos hp]);have HCM:Hid (∀(W1 W:World) C d,Ints W1 C 2 .i64 (zJ x)->Ext W1 W->Ext w3 W->Calls Tryz.prog 31 #[.slice B n cx,.slice C n d] W (jA W (.int .i64 0))):=Zh (fun W1 W C d i1 e1 e2=>by
      have h:=zbn (w0:=W) (w:=W) (c:=cx) (d:=d) (HIX.out.ext e2) (i1.ext e1) (by rw [zpa.out];omega) (by rw [jQ,zpa.out];omega);rw [jQ,hlx,zpa.out] at h;exact h)
     have HPT:Hid (∀W,Ext wr W->Calls Tryz.prog 86 #[.slice A5 (z9 m (xs.take k)).length c5,.agg #[.int .i64 nv,.slice B n cx]] W (zb3 W w.heap.size (zZ (z9 m (xs.take k)) (zu m x,x)))):=Zh (fun W e=>by
      have h:=zoN (a:=nv) (HO5.out.ext e) (HV5.out.ext e) (zqx.trans e).size (HIL.out k) (HIX.out.ext (hxr.trans e)) (by rw [zpa.out];exact a4) a5 (by rw [zpa.out];omega) (HIM.out k);rw [zpa.out,HNV.out] at h;rw [HNV.out];exact h)
     unfold zb3 at HPT;rw [<-HPS.out] at HPT;clear hcx hlx;obtain ⟨I2,hI2⟩:∃I2,I2=z9 m (xs.take (k+1)):=⟨_,rfl⟩;rw [<-hI2] at HPT;have HI2:=Zh hI2;clear hI2;go_wp2_with (first
      |(go_at_call 29;refine (HCA.out _ Zi).mono ?_;rintro e w5 (⟨zqG,-⟩ |⟨-,C5,d5,rfl,hI5,-,-,hs5⟩);(exact absurd zqG hz);have HI5:=Zh hI5;clear hI5)
      |(go_at_call 31;refine (HCM.out _ _ _ _ HI5.out Zi Zi).mono ?_;rintro e w6 ⟨rfl,nq,rfl⟩)
      |(go_at_call 86;refine (HPT.out _ Zi).mono ?_;rintro e w7 ⟨A7,c7,vs7,rfl,hO7,hV7,hx7⟩;have HO7:=Zh hO7;have HV7:=Zh hV7;have zu7:Ext w3 w7:=(Zi:Ext w3 (w5.drewN nq)).trans hx7;clear hO7 hV7))
     exact ⟨⟨k+1,A7,c7,vs7,by omega,by go_num,by rw [HI2.out],by rw [<-HI2.out];exact HO7,by rw [<-HI2.out];exact HV7,zu7.trans Zi⟩,by simp [intOf]<;>omega⟩
    ·have hlx:zw x (zJ x)≠0:=fun h=>hp ((zhU hz).1 (Jm _ _ h).symm)
     have hle:(zw x (zJ x)==0)=false:=by simpa using hlx
     have HPS:Hid (z9 m (xs.take (k+1))=z9 m (xs.take k)):=Zh (by rw [HT.out];unfold JA;rw [if_neg hp]);have HCM:Hid (∀(W1 W:World) C d,Ints W1 C 2 .i64 (zJ x)->Ext W1 W->Ext w3 W->Calls Tryz.prog 31 #[.slice B n cx,.slice C n d] W (jA W (.int .i64 (zw x (zJ x))))):=Zh (fun W1 W C d i1 e1 e2=>by
      have h:=zbn (w0:=W) (w:=W) (c:=cx) (d:=d) (HIX.out.ext e2) (i1.ext e1) (by rw [zpa.out];omega) (by rw [jQ,zpa.out];omega);rw [jQ,zpa.out] at h;exact h)
     clear hlx;generalize zw x (zJ x)=lx at*
     go_wp2_with (first
      |(go_at_call 29;refine (HCA.out _ Zi).mono ?_;rintro e w5 (⟨zqG,-⟩ |⟨-,C5,d5,rfl,hI5,-,-,hs5⟩);(exact absurd zqG hz);have HI5:=Zh hI5;clear hI5)
      |(go_at_call 31;refine (HCM.out _ _ _ _ HI5.out Zi Zi).mono ?_;rintro e w6 ⟨rfl,nq,rfl⟩))
     refine ⟨⟨k+1,A5,c5,vs,by omega,by go_num,by rw [HPS.out],Zh ?_,Zh ?_,Zi⟩,by simp [intOf]<;>omega⟩
     ·rw [HPS.out];exact HO5.out.ext Zi
     ·rw [HPS.out];exact HV5.out.ext Zi
  ·obtain rfl:k=N:=by omega
   have htk:xs.take k=xs:=List.take_of_length_le (by rw [<-HN.out];exact Zr);rw [htk] at HO5 HV5;rw [htk];go_wp2_with fail
   go_ret;exact ⟨A5,c5,vs,rfl,HO5.out,HV5.out,zqx.toStep⟩
end
end Go.Proofs.YtjehjkipcaohpaaGreat
