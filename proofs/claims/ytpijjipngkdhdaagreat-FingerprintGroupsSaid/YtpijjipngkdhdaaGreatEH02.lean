import Derived.Test.YtpijjipngkdhdaaGreatEH01
import Derived.Test.YtpijjipngkdhdaaGreatE21
set_option maxHeartbeats 8000000
set_option linter.unusedVariables false
set_option linter.unusedSimpArgs false
namespace Go.Proofs.YtpijjipngkdhdaaGreat
open La
variable {a za:Int} {its l:List (Int×List Int)} {m:List (List Int)} {x:List Int} {vs:List Value} {c n xc ze:Nat} {A B XA:Option Addr} {e:TypeId} {w w' w0 w1:World}
theorem Vo{cs:List Int}{ys:List (Int×Int)}{i:Nat}(h:i<cs.length):(Zk cs ys).getD i 0=cs.getD i 0+zQ ys i:=by
 simp[Zk,h]
end Go.Proofs.YtpijjipngkdhdaaGreat
namespace Go.Proofs.YtpijjipngkdhdaaGreat
open Go.RowKit
open La
variable {a za:Int} {its l:List (Int×List Int)} {m:List (List Int)} {x:List Int} {vs:List Value} {c n xc ze:Nat} {A B XA:Option Addr} {e:TypeId} {w w' w0 w1:World}
theorem Vg{d k:Nat}(hM:MatV w0 A m)(hX:IntsV w1 B x)(h1:m.length=n)(h3:1<=n)(h4:n<=16)(hn:AllLen m n)(hxl:x.length=n)(hk:k<=100000000000)(hbm:∀i j,Bd k (ent m i j))(hbx:jZ k x)[hx:Ext w0 w][hy:Ext w1 w]:
  Calls Tryz.prog 250 #[.slice A n c,.slice B n d] w (zx w (zq n fun i=>x.getD i 0*(vd m n x).getD i 0)):=by
 have h0:=hM.ext hx;have hX0:=hX.ext hy;have HAP:Hid (∀W,Ext w W->Calls Tryz.prog 174 #[.slice A n c,.slice B n d] W (zgy W (vd m n x))):=Zh (fun W e=>by
  have :=Vd (w:=W) (c:=c) (d:=d) (k:=k) h0 hX0 (by omega) (by omega) h3 h4 hn hxl (by omega) hbm hbx;rwa [h1]at this)
 have HDT:Hid (∀(W1 W:World)(A1:Option Addr)(c1:Nat),IntsV W1 A1 (vd m n x)->Ext W1 W->Ext w W->Calls Tryz.prog 206 #[.slice B n d,.slice A1 n c1] W (zx W (zq n fun i=>x.getD i 0*(vd m n x).getD i 0))):=Zh (fun W1 W A1 c1 i1 e1 e2=>
  zgq hX0 i1 hxl (by rw[vn];exact h1) h4 (k:=2*k+n) (by omega) (fun i=>(hbx i).mono (by omega)) (vB h4 hbm hbx))
 have HAL:Hid ((vd m n x).length=n):=Zh (by rw[vn];exact h1);clear hbm hbx hn hxl h1 hM hX h0 hX0;generalize (zq n fun i=>x.getD i 0*(vd m n x).getD i 0)=z at*
 generalize vd m n x=ay at*
 go_enter Tryz.func250,Tryz.ntmps250;go_wp2_with (first
  |(go_at_call 174;refine(HAP.out _ Zi).mono ?_;rintro e w5 ⟨A5,c5,rfl,hI5,-,-,hs5⟩;have HI5:=Zh hI5;clear hI5;rw[HAL.out])
  |(go_at_call 206;refine(HDT.out _ _ _ _ HI5.out Zi Zi).mono ?_;rintro e w7 ⟨g7,B7,k7,d7,rfl,hz7,hs7⟩;have hb7:=(Zi:BlkAt w.heap.size #[.bool false,.slice none 0 0] 178 w7).eq;obtain⟨t1,t2,t3,t4,t5⟩:=zJ hb7;simp))
 exact bodyPost_ret (v:= .agg #[.bool g7,.slice B7 k7 d7]) (by simp[results,Tryz.results250,go_sem,t1,t2]) rfl ⟨_,_,_,_,rfl,hz7.keeps,Step.of _ _⟩
theorem Vp(hn:AllLen m m.length):qB m 0=m:=by
 unfold qB;rw[Nat.sub_zero];have :tab (fun i j=>E (ent m) 0 (0+i) (0+j)) m.length m.length=tab (fun i j=>ent m i j) m.length m.length:=zkW fun i j _ _=>by rw[Nat.zero_add,Nat.zero_add];rfl
 rw[this];exact(zmt rfl hn).symm
theorem Vz(hL:LLLed m)(hxl:x.length=m.length)(hxb:∀a∈x,-9223372036854775808<=a/\a<=9223372036854775807):Bd 100000 (zi m x):=by
 have h8:=hL.len8;rw[<-zbK hL.all x hxl,vC];have h1:=vB (m:=m) (n:=m.length) (k:=199) (x:=x) (by omega) hL.bd (fun i=>(zg7 hxb i).mono (by omega));exact(zaP (k:=64+(2*199+m.length)) (n:=m.length) (fun i _=>(zg7 hxb i).mul (h1 i)) m.length Zr).mono (by omega)
set_option maxRecDepth 20000 in
theorem vS{SB DB:Option Addr}{sc dc:Nat}(hF':FrV w0 m SB DB)(hL:LLLed m)(h1:m.length=n)(hX:Ints w1 XA 2 .i64 x)(hxl:x.length=n)(hxb:∀a∈x,-9223372036854775808<=a/\a<=9223372036854775807)[hx:Ext w0 w][hy:Ext w1 w]:
  Calls Tryz.prog 165 #[.agg #[.int .i64 n,.slice SB n sc,.slice DB (n+1) dc],.slice XA n xc] w (zac w (fun p q=>p=zi m x/\q=1)):=by
 have h8:=hL.len8;have h3:=hL.len1;have hF:=hF'.ext hx;have hms:((List.range m.length).map (qB m))[0]? =some (qB m 0):=by rw[List.getElem?_map,List.getElem?_range (by omega)];rfl
 obtain⟨bs,os,BM,cM,rfl,g1,hM,-,-,g2⟩:=hF.1.at_ hms;rw[Vp hL.all]at g1 hM;obtain⟨bd,od,gD,BD,kD,dD,rfl,d1,d2,hzD,d3⟩:=hF.2.atD (i:=0) (by simp);rw[h1]at g1;have zqi:AllLen m n:=by rw[<-h1];exact hL.all
 have HCO:Hid (∀W,Ext w1 W->Calls Tryz.prog 175 #[.slice XA n xc] W (zdz W x)):=Zh (fun W e=>by
  have :=zm2 (w:=W) (c:=xc) hX (by omega) hxb;rwa [hxl]at this)
 have hnv:(zq n fun i=>x.getD i 0*(vd m n x).getD i 0)=zi m x:=by
  rw[<-zbK hL.all x (by omega),vC,h1]
 have HVA:Hid (∀(W1 W:World)(A1:Option Addr)(c1:Nat),IntsV W1 A1 x->Ext W1 W->Ext w W->Calls Tryz.prog 250 #[.slice BM n cM,.slice A1 n c1] W (zx W (zi m x))):=Zh (fun W1 W A1 c1 i1 e1 e2=>by
  rw[<-hnv];exact Vg (k:=199) (hM.ext e2) i1 h1 (by omega) (by omega) zqi hxl (by omega) hL.bd (fun i=>(zg7 hxb i).mono (by omega)))
 have hnb:=Vz hL (x:=x) (by omega) hxb;have HQU:Hid (∀(W1 W:World)g B k d,IntV W1 g B k d (zi m x)->Ext W1 W->Ext w W->Calls Tryz.prog 231 #[.agg #[.bool g,.slice B k d],.agg #[.bool gD,.slice BD kD dD]] W (zac W (RatOf (zi m x) 1))):=Zh (fun W1 W g B k d hz e1 e2=>zmm hz (hzD.ext e2) (kk:=100000) (by omega) hnb (Bd.one (by omega)) (by omega));have VF:=Zh hxl;have hn0:((n:Int)==0)=false:=by simp;omega
 have hn1:0<n:=by omega
 generalize zi m x=nv at*
 have oa:Old bs w:=⟨g2⟩;have ob:Old bd w:=⟨d3⟩;go_enter Tryz.func165,Tryz.ntmps165;go_wp2_with fail
 have HKP:Hid (∀W,Ext (w.alloc (.cells #[.int .i64 n,.slice (some ⟨bs,os,none⟩) n sc,.slice (some ⟨bd,od,none⟩) (n+1) dc] 128)) W->W.cell? ⟨w.heap.size,1,none⟩=some (.slice (some ⟨bs,os,none⟩) n sc)/\W.cell? ⟨w.heap.size,2,none⟩=some (.slice (some ⟨bd,od,none⟩) (n+1) dc)/\W.cell? ⟨bs,os,none⟩=some (.slice BM n cM)/\W.cell? ⟨bd,od,none⟩=some (.bool gD)/\W.cell? ⟨bd,od+1,none⟩=some (.slice BD kD dD)):=Zh (fun W e=>by
  have hb:=zh e (heap_alloc_new w _);obtain⟨⟨-,f1,f2⟩,-,-⟩:=zag hb;have e2:Ext w W:=Ext.trans Zi e;exact⟨f1,f2,(zg w).trans g1,(zg w).trans d1,(zg w).trans d2⟩)
 go_region_held3 (fun w'=>w'.cell? ⟨w.heap.size,1,none⟩=some (.slice (some ⟨bs,os,none⟩) n sc)/\w'.cell? ⟨w.heap.size,2,none⟩=some (.slice (some ⟨bd,od,none⟩) (n+1) dc)/\w'.cell? ⟨bs,os,none⟩=some (.slice BM n cM)/\w'.cell? ⟨bd,od,none⟩=some (.bool gD)/\w'.cell? ⟨bd,od+1,none⟩=some (.slice BD kD dD))
  (exact HKP.out _ Zi)
  (first
   |(go_at_call 175;refine(HCO.out _ Zi).mono ?_;rintro e w3 ⟨A3,c3,rfl,hI3,-,-,hs3⟩;rw[VF.out])
   |(go_at_call 250;refine(HVA.out _ _ _ _ hI3 Zi Zi).mono ?_;rintro e w4 ⟨g4,B4,k4,d4,rfl,hz4,hs4⟩)
   |(go_at_call 231;refine(HQU.out _ _ _ _ _ _ hz4 Zi Zi).mono ?_;rintro e w5 ⟨g6,B6,k6,d6,g7,B7,k7,d7,p,q,rfl,hz6,hz7,VU,hs5⟩;have hbk:=(Zi:BlkAt (w.heap.size+1) #[.bool false,.slice none 0 0,.bool false,.slice none 0 0] 220 w5).eq;obtain⟨⟨a0,a1,a2,a3⟩,⟨f0,f1,f2,f3⟩,a4⟩:=QV hbk;clear hbk))
 have hq1:q=1:=by
  have :=VU.pos;have :=VU.le2;omega
 have hp1:p=nv:=by
  have :=VU.eq;rw[hq1]at this;omega
 clear VU;go_wp2_with fail
 exact bodyPost_ret (v:= .agg #[.bool g6,.slice B6 k6 d6,.bool g7,.slice B7 k7 d7]) (by simp[results,Tryz.results165,go_sem,a0,a1,a2,a3]) rfl ⟨_,_,_,_,_,_,_,_,p,q,rfl,hz6.keeps,hz7.keeps,⟨hp1,hq1⟩,Step.of _ _⟩
def ItV(w:World)(vs:List Value)(its:List (Int×List Int)):Prop:=vs.length=its.length*2/\∀(i:Nat)(p:Int×List Int),its[i]? =some p->∃B c,vs[i*2]? =some (.int .i64 p.1)/\vs[i*2+1]? =some (.slice B p.2.length c)/\Ints w B 2 .i64 p.2/\p.2.length<=c/\c<=9223372036854775807
theorem ItV.map(h:ItV w vs its)(hk:∀{B:Option Addr}{l:List Int},Ints w B 2 .i64 l->Ints w' B 2 .i64 l):ItV w' vs its:=⟨h.1,fun i p hp=>by
 obtain⟨B,c,a1,a2,a3,a4⟩:=h.2 i p hp;exact⟨B,c,a1,a2,hk a3,a4⟩⟩
theorem ItV.ext(h:ItV w vs its)(hx:Ext w w'):ItV w' vs its:=h.map fun h=>h.ext hx
theorem ItV.nil(w:World):ItV w [] []:=⟨rfl,fun i p hp=>by simp at hp⟩
theorem ItV.snoc(h:ItV w vs its)(hI:Ints w B 2 .i64 x)(h1:x.length<=c)(h2:c<=9223372036854775807):ItV w (vs++[.int .i64 a,.slice B x.length c]) (its++[(a,x)]):=by
 refine⟨by simp[h.1];omega,fun i p hp=>?_⟩;rcases Zl i its.length with hlt |hge
 ·rw[List.getElem?_append_left hlt]at hp;obtain⟨B',c',a1,a2,a3⟩:=h.2 i p hp;have hl:=h.1;exact⟨B',c',by rw[List.getElem?_append_left (by omega)];exact a1,by rw[List.getElem?_append_left (by omega)];exact a2,a3⟩
 ·have hi:i=its.length:=by
   have :=(Zg.1 hp).1;simp at this;omega
  subst hi;rw[List.getElem?_append_right Zr,Nat.sub_self]at hp;simp only[List.getElem?_cons_zero]at hp;injection hp with hp
  subst hp;have hl:=h.1;exact⟨B,c,by rw[List.getElem?_append_right (by omega),hl,Nat.sub_self];rfl,by rw[List.getElem?_append_right (by omega),hl,Nat.add_sub_cancel_left];rfl,hI,h1,h2⟩
theorem vh:(Tryz.prog.info? 55).map (fun i=>(i.zero,i.size,i.bytes))=some (some (.agg #[.int .i64 0,.slice none 0 0]),2,32):=by kernel_rfl
theorem Grow.stepI{w2:World}(h:Grow ze e w w')(h':Grow ze e w' w2):Grow ze e w w2:=⟨h.below.trans h'.below,fun k hk hne=>by
 have e1:=h.typed k hk hne;exact(h'.typed k (Nat.lt_of_lt_of_le hk h.below.size) (fun cs fr hh=>hne cs fr (by rw[<-e1];exact hh))).trans e1⟩
attribute [local go_sem] znR
def Vh(m:List (List Int))(b:Int):Nat->List Int->List (List Int)
 |0,t=>[t]
 |k+1,t=>vf m b k t
def vk(m:List (List Int))(b:Int)(k:Nat)(t:List Int)(q:Nat):List (List Int):=(List.range q).flatMap fun(j:Nat)=>Vh m b k ((zX m b k t+(j:Int))::t)
theorem VD(m:List (List Int))(b:Int)(k:Nat)(t:List Int):vf m b k t=vk m b k t (QW m b k t):=by
 cases k with
 |zero=>
  unfold vk Vh;rw[vf];induction List.range (QW m b 0 t) with
  |nil=>rfl
  |cons a l ih=>rw[List.map_cons,List.flatMap_cons,ih];rfl
 |succ k=>rfl
theorem vM(m:List (List Int))(b:Int)(k:Nat)(t:List Int)(q:Nat):vk m b k t (q+1)=vk m b k t q++Vh m b k ((zX m b k t+(q:Int))::t):=by
 unfold vk;rw[List.range_succ,List.flatMap_append,List.flatMap_singleton]
theorem VA(m:List (List Int))(b:Int)(k:Nat)(t:List Int){p q:Nat}(h:p<=q):(vk m b k t p).length<=(vk m b k t q).length:=by
 induction q with
 |zero=>obtain rfl:p=0:=by omega
        exact Zr
 |succ q ih=>
  rcases Zl p (q+1) with h1 |h1
  ·have :=ih (by omega);rw[vM,List.length_append];omega
  ·obtain rfl:p=q+1:=by omega
   exact Zr
def vt(m:List (List Int))(L:List (List Int)):List (Int×List Int):=L.map fun x=>(zi m x,x)
theorem vw(m:List (List Int))(L L':List (List Int)):vt m (L++L')=vt m L++vt m L':=List.map_append
def vH(w:World)(ze len:Nat)(its:List (Int×List Int))(m L:List (List Int))(e:Ending)(w':World):Prop:=∃A c vs,e= .returned (.slice A (len+L.length) c)/\Own w' ze 55 2 A (len+L.length) c vs/\ItV w' vs (its++vt m L)/\Grow ze 55 w w'
set_option maxRecDepth 20000 in
theorem vZ(hL:LLLed m)(h1:m.length=n)(hb:0<=za)(hb1:za<1073741824)(k:Nat):
  ∀(w:World)(SB DB TA OA:Option Addr)(sc dc tc oc q len:Nat)(t:List Int)(vs:List Value)(its:List (Int×List Int)),n=k+q+1->FrV w m SB DB->Ints w TA 2 .i64 t->t.length=q->(∀a∈t,-9223372036854775808<=a/\a<=9223372036854775807)->0<=left (ent m) za (k+1) t->Own w ze 55 2 OA len oc vs->ItV w vs its->ze<=w.heap.size->len+(vf m za k t).length<=4000000->
  Calls Tryz.prog 85 #[.agg #[.int .i64 n,.slice SB n sc,.slice DB (n+1) dc],.int .i64 za,.slice TA q tc,.slice OA len oc] w (vH w ze len its m (vf m za k t)):=by
 induction k using Nat.strongRecOn with
 |ind k ih=>
  intro w SB DB TA OA sc dc tc oc q len t vs its hq hF hT htl htb h0 hO hV VL hln;have IH:=Zh ih;clear ih;have hr:=qT hL.red;have hn8:=hL.len8;have hkm:k<m.length:=by omega
  have htm:t.length=m.length-1-k:=by omega
  obtain⟨v1,v2,v3,v4,v5,v6⟩:=znc hr hb hb1 hkm htm h0;have HIV:Hid (∀W,Ext w W->Calls Tryz.prog 163 #[.agg #[.int .i64 n,.slice SB n sc,.slice DB (n+1) dc],.int .i64 za,.slice TA q tc] W (zz W (.tuple #[.int .i64 (zX m za k t),.int .i64 (Zb m za k t)]))):=Zh (fun W e=>
   znt hF hL h1 hq hT htl htb (by omega) (by omega) h0 (by omega) (by omega) (by omega) (by omega))
  rw[VD]at hln |-
  unfold vH;obtain⟨J,hJ⟩:∃J,J=QW m za k t:=⟨_,rfl⟩;rw[<-hJ]at hln |-
  have hJ2:J=(Zb m za k t-zX m za k t+1).toNat:=hJ;have HK1:Hid (∀i,i<J->0<=left (ent m) za k ((zX m za k t+(i:Int))::t)):=Zh (fun i hi'=>J2 hr t hkm htm h0 (j:=i) (by rw[hJ]at hi';exact hi'));have HK2:Hid (∀i,i<=J->(vk m za k t i).length<=(vk m za k t J).length):=Zh (fun i hi'=>VA m za k t hi');have HK4:=Zh (vM m za k t);obtain⟨lo,hlo⟩:∃lo,lo=zX m za k t:=⟨_,rfl⟩;obtain⟨hi,hhi⟩:∃hi,hi=Zb m za k t:=⟨_,rfl⟩
  rw[<-hlo]at v1 v2 v3 v4 HIV HK1 HK4 hJ2;rw[<-hhi]at v1 v2 v5 v6 HIV hJ2;have hhl:hi-lo+1=(J:Int):=by omega
  have zpZ:Hid (∀i,i<J->∀a∈(lo+(i:Int))::t,-9223372036854775808<=a/\a<=9223372036854775807):=Zh (fun i hi' a ha=>by
   rcases List.mem_cons.1 ha with rfl |ha
   ·omega
   ·exact htb a ha)
  have HNB:Hid (k=0->∀i,i<J->-9223372036854775808<=zi m ((lo+(i:Int))::t)/\zi m ((lo+(i:Int))::t)<=9223372036854775807):=Zh (fun e i hi'=>by
   have h4:=HK1.out i hi';subst e;have hlx:((lo+(i:Int))::t).length=m.length:=by simp;omega
   rw[Ju hL.all za _ hlx]at h4;have :=J0 hr _ hlx;omega)
  have HFV:=Zh hF;have HTV:=Zh hT;have HH1:=Zh h1;have HTL:=Zh htl;have HQ:=Zh hq;have HO:=Zh hO;have HV:=Zh hV;have hqn:q<n:=by omega
  have hn9:n<=8:=by omega
  clear hlo hhi h1 hkm hq htl hJ hF hT htb h0 hO hV hr htm hJ2;go_enter Tryz.func85,Tryz.ntmps85;go_upto_region 2 with (go_at_call 163;refine(HIV.out _ Zi).mono ?_;rintro e w1 ⟨rfl,hs1⟩)
  have hx1:Ext w w1:=Zi;have yo:ze<=w1.heap.size:=Nat.le_trans VL hx1.size;have hfb:w1.heap[w.heap.size]? =some (.cells #[.int .i64 n,.slice SB n sc,.slice DB (n+1) dc] 128 (0,0)):=zh (Zi:Ext (w.alloc (.cells #[.int .i64 n,.slice SB n sc,.slice DB (n+1) dc] 128)) w1) (heap_alloc_new w _);have HFW:Hid (∀W,Grow ze 55 w1 W->W.heap[w.heap.size]? =some (.cells #[.int .i64 n,.slice SB n sc,.slice DB (n+1) dc] 128 (0,0))):=Zh (fun W h=>h.heap hfb (by decide))
  have yq:Hid (Grow ze 55 w w1):=Zh (Grow.of_ext hx1 VL);clear hfb;go_wp2_with fail
  go_loopw [3,11] (fun s3 x wr=>∃(i:Nat) (A3:Option Addr) (c3:Nat) (vs3:List Value),i<=J/\x= .int .i64 (lo+(i:Int))/\s3= .slice A3 (len+(vk m za k t i).length) c3/\Hid (Own wr ze 55 2 A3 (len+(vk m za k t i).length) c3 vs3)/\Hid (ItV wr vs3 (its++vt m (vk m za k t i)))/\Hid (Grow ze 55 w1 wr)) (fun _ x _=>(hi-intOf x+1).toNat)
  case atStart=>exact⟨0,OA,oc,vs,by omega,by simp,rfl,Zh (HO.out.ext hx1),Zh (by have :=HV.out.ext hx1;simpa[vk,vt] using this),Zh (Grow.of_ext (Ext.refl _) yo)⟩
  case round=>
   obtain⟨i,A3,c3,vs3,hi',rfl,rfl,HOI,V9,VM⟩:=hrel;have hfr:=HFW.out wr VM.out;obtain⟨⟨f0,f1,f2⟩,-,f3⟩:=zag hfr;have oW:Old w.heap.size wr:=⟨f3⟩;have VV:ze<=wr.heap.size:=Nat.le_trans yo VM.out.below.size;by_cases hlt:i<J
   ·have hG:=yq.out.stepI VM.out;have hF:=HFV.out.oth (Oth.of_grow hG) (by decide) (by decide) (by decide) (by decide);have hT:=HTV.out.oth (Oth.of_grow hG) (by decide);have hk4:=HK4.out i;have hk2:=HK2.out (i+1) (by omega);rw[hk4,List.length_append]at hk2;have hle:lo+(i:Int)<=hi:=by omega
    have HLG:Hid (∀W,Ext wr W->Calls Tryz.prog 164 #[.int .i64 (lo+(i:Int)),.slice TA q tc] W (fun e w'=>∃A c,e= .returned (.slice A (q+1) c)/\Ints w' A 2 .i64 ((lo+(i:Int))::t)/\q+1<=c/\c<=9223372036854775807/\Step W w')):=Zh (fun W e=>by
     have :=znh (w:=W) (c:=tc) (lo+(i:Int)) hT (by rw[HTL.out];omega);rw[HTL.out]at this;refine this.mono ?_;rintro e w' ⟨A,c,rfl,a1,a2,a3,a4⟩;rw[List.length_cons,HTL.out]at a2;exact⟨A,c,by rw[List.length_cons,HTL.out],a1,a2,a3,a4⟩)
    have hw3:IntKind.i64.wrap (lo+(i:Int)+1)=lo+((i+1:Nat):Int):=by rw[IntKind.wrap_i64];omega
    have HEX:Hid (∀W,Ext wr W->W.cell? ⟨w.heap.size,0,none⟩=some (.int .i64 n)/\W.cell? ⟨w.heap.size,1,none⟩=some (.slice SB n sc)/\W.cell? ⟨w.heap.size,2,none⟩=some (.slice DB (n+1) dc)):=Zh (fun W e=>(zag (zh e hfr)).1);rcases k with _ |k
    ·have hqe:q+1=n:=by have :=HQ.out;omega
     have hb0:decide ((q:Int)+1<(n:Int))=false:=by simp;omega
     have yb:Hid (∀(W1 W:World)(A:Option Addr)(c:Nat),Ints W1 A 2 .i64 ((lo+(i:Int))::t)->Ext W1 W->Ext wr W->Calls Tryz.prog 165 #[.agg #[.int .i64 n,.slice SB n sc,.slice DB (n+1) dc],.slice A (q+1) c] W (zac W (fun p q=>p=zi m ((lo+(i:Int))::t)/\q=1))):=Zh (fun W1 W A c i1 e1 e2=>by
      rw[hqe];exact vS (hF.ext e2) hL HH1.out i1 (by rw[List.length_cons,HTL.out];exact hqe) (zpZ.out i hlt))
     have hnb:=HNB.out rfl i hlt;have HLN:Hid (Vh m za 0 ((lo+(i:Int))::t)=[(lo+(i:Int))::t]):=Zh rfl;rw[HLN.out]at hk4 hk2;have VJ:=Zh hk4;have yd:Hid (((lo+(i:Int))::t).length=q+1):=Zh (by rw[List.length_cons,HTL.out]);simp only[List.length_cons,List.length_nil]at hk2;obtain⟨t2,ht2⟩:∃t2,t2=(lo+(i:Int))::t:=⟨_,rfl⟩;rw[<-ht2]at HLG yb hnb VJ yd;have HN2:Hid (vt m [t2]=[(zi m t2,t2)]):=Zh rfl
     unfold zac at yb;generalize zi m t2=nv at*
     clear hF hT hG hk4 ht2 hfr hqe;go_wp2_with (first
      |(go_at_call 164;refine(HLG.out _ Zi).mono ?_;rintro e w5 ⟨A5,c5,rfl,hI5,yr,yt,hs5⟩;obtain⟨x0,x1,x2⟩:=HEX.out w5 Zi;have yu:Ext wr w5:=Zi)
      |(go_at_call 165;refine(yb.out _ _ _ _ hI5 Zi Zi).mono ?_;rintro e w6 ⟨g6,B6,k6,d6,g7,B7,k7,d7,p,qq,rfl,hz6,hz7,⟨rfl,-⟩,hs6⟩)
      |(go_at_call 127;refine(zcp hz6 hnb.1 hnb.2).mono ?_;rintro e w7 ⟨rfl,hs7⟩;have hI7:=hI5.ext (Zi:Ext w5 w7);have hx7:Ext wr w7:=Zi;have Yj:ze<=w7.heap.size:=Nat.le_trans VV hx7.size)
      |(at_builtin;go_loud (refine Zd _ rfl _ _ 50 rfl ze 55 (.agg #[.int .i64 0,.slice none 0 0]) 2 32 Tryz.underlying50 vh rfl (by omega) (by omega) A3 (len+(vk m za 0 t i).length) c3 vs3 rfl (HOI.out.ext Zi) (some ⟨w7.heap.size,0,none⟩) 1 1 [.int .i64 p,.slice A5 (q+1) c5] rfl (Arr.new w7 55 #[.int .i64 p,.slice A5 (q+1) c5]) (by simp) (by simp[Value.oneCell']) (by omega) (by simp;omega) ?_);intro A8 c8 w8 zqd hg;have VG:=Zh zqd;have yv:=Zh hg;clear zqd hg))
     refine⟨⟨i+1,A8,c8,vs3++[.int .i64 p,.slice A5 (q+1) c5],by omega,by first|rfl |(congr 1;omega),?_,Zh ?_,Zh ?_,Zh (VM.out.stepI ((Grow.of_ext (Zi:Ext wr (w7.alloc (.cells #[.int .i64 p,.slice A5 (q+1) c5] 55))) VV).stepI yv.out))⟩,by simp[intOf]<;>omega⟩
     ·rw[VJ.out];simp only[List.length_append,List.length_cons,List.length_nil];rfl
     ·rw[VJ.out,List.length_append,List.length_singleton,<-Nat.add_assoc];exact VG.out
     ·rw[VJ.out,vw,HN2.out,<-List.append_assoc];rw[<-yd.out];exact(ItV.snoc (V9.out.ext (Zi:Ext wr w7)) (hI7) (by rw[yd.out];exact yr) yt).map fun h=>(h.ext (Zi:Ext w7 (w7.alloc (.cells #[.int .i64 p,.slice A5 (q+1) c5] 55)))).oth (Oth.of_grow yv.out) (by decide)
    ·have hq1:q+1<n:=by have :=HQ.out;omega
     have hb0:decide ((q:Int)+1<(n:Int))=true:=by simp;omega
     have HLN:Hid (Vh m za (k+1) ((lo+(i:Int))::t)=vf m za k ((lo+(i:Int))::t)):=Zh rfl;rw[HLN.out]at hk4 hk2;have HCN:Hid (∀(W:World)(A:Option Addr)(c:Nat),Ints W A 2 .i64 ((lo+(i:Int))::t)->Ext wr W->Calls Tryz.prog 85 #[.agg #[.int .i64 n,.slice SB n sc,.slice DB (n+1) dc],.int .i64 za,.slice A (q+1) c,.slice A3 (len+(vk m za (k+1) t i).length) c3] W (vH W ze (len+(vk m za (k+1) t i).length) (its++vt m (vk m za (k+1) t i)) m (vf m za k ((lo+(i:Int))::t)))):=Zh (fun W A c hI e=>
      IH.out k (by omega) W SB DB A A3 sc dc c c3 (q+1) _ _ vs3 _ (by have :=HQ.out;omega) (hF.ext e) hI (by rw[List.length_cons,HTL.out]) (zpZ.out i hlt) (HK1.out i hlt) (HOI.out.ext e) (V9.out.ext e) (Nat.le_trans VV e.size) (by omega))
     have VJ:=Zh hk4;unfold vH at HCN;obtain⟨t2,ht2⟩:∃t2,t2=(lo+(i:Int))::t:=⟨_,rfl⟩;rw[<-ht2]at HLG HCN VJ;clear hF hT hG hk4 hk2 ht2 hfr HLN;generalize vf m za k t2=L2 at*
     go_wp2_with (first
      |(go_at_call 164;refine(HLG.out _ Zi).mono ?_;rintro e w5 ⟨A5,c5,rfl,hI5,yr,yt,hs5⟩;obtain⟨x0,x1,x2⟩:=HEX.out w5 Zi;have yu:Ext wr w5:=Zi)
      |(go_at_call 85;refine(HCN.out _ _ _ hI5 Zi).mono ?_;rintro e w6 ⟨A6,c6,vs6,rfl,hO6,yw,yy⟩;have HO6:=Zh hO6;have HV6:=Zh yw;have HG6:=Zh ((Grow.of_ext yu VV).stepI yy);clear hO6 yw yy))
     refine⟨⟨i+1,A6,c6,vs6,by omega,by first|rfl |(congr 1;omega),?_,Zh ?_,Zh ?_,Zh (VM.out.stepI HG6.out)⟩,by simp[intOf]<;>omega⟩
     ·rw[VJ.out,List.length_append,<-Nat.add_assoc]
     ·rw[VJ.out,List.length_append,<-Nat.add_assoc];exact HO6.out
     ·rw[VJ.out,vw,<-List.append_assoc];exact HV6.out
   ·obtain rfl:i=J:=by omega
    have zqR:decide (lo+(i:Int)<=hi)=false:=by simp;omega
    go_wp2_with fail
    go_ret;exact⟨A3,c3,vs3,rfl,HOI.out,V9.out,yq.out.stepI VM.out⟩
theorem Arr.take(h:Arr w A e vs)(k:Nat):Arr w A e (vs.take k):=fun h0=>by
 obtain⟨b,o,cs,fr,hA,hb,hc⟩:=h (by rw[List.length_take]at h0;omega);refine⟨b,o,cs,fr,hA,hb,fun j u hu=>?_⟩;rw[List.getElem?_take]at hu;split at hu
 ·exact hc _ _ hu
 ·cases hu
theorem ItV.one(h:ItV w vs its):∀u∈vs,u.oneCell'=true:=fun u hu=>by
 obtain⟨j,hj⟩:=List.getElem?_of_mem hu;have hjl:=(Zg.1 hj).1;have hl:=h.1;have hi:j / 2<its.length:=by omega
 obtain⟨B,c,a1,a2,-⟩:=h.2 (j / 2) its[j / 2] (Ze hi);rcases Nat.mod_two_eq_zero_or_one j with e |e
 ·rw[show j / 2*2=j by omega,hj]at a1;injection a1 with a1
  rw[a1];rfl
 ·rw[show j / 2*2+1=j by omega,hj]at a2;injection a2 with a2
  rw[a2];rfl
theorem ItV.take(h:ItV w vs its)(k:Nat):ItV w (vs.take (k*2)) (its.take k):=by
 refine⟨by rw[List.length_take,List.length_take,h.1];omega,fun i p hp=>?_⟩;rw[List.getElem?_take]at hp;split at hp
 ·rename_i hi
  obtain⟨B,c,a1,a2,a3⟩:=h.2 i p hp;exact⟨B,c,by rw[List.getElem?_take,if_pos (by omega)];exact a1,by rw[List.getElem?_take,if_pos (by omega)];exact a2,a3⟩
 ·cases hp
theorem ItV.drop(h:ItV w vs its)(k:Nat):ItV w (vs.drop (k*2)) (its.drop k):=by
 refine⟨by rw[List.length_drop,List.length_drop,h.1];omega,fun i p hp=>?_⟩;rw[List.getElem?_drop]at hp;obtain⟨B,c,a1,a2,a3⟩:=h.2 _ p hp;exact⟨B,c,by rw[List.getElem?_drop,show k*2+i*2=(k+i)*2 by omega];exact a1,by rw[List.getElem?_drop,show k*2+(i*2+1)=(k+i)*2+1 by omega];exact a2,a3⟩
theorem ItV.append{vs':List Value}{its':List (Int×List Int)}(h:ItV w vs its)(h':ItV w vs' its'):ItV w (vs++vs') (its++its'):=by
 refine⟨by simp[h.1,h'.1];omega,fun i p hp=>?_⟩;have hl:=h.1;rcases Zl i its.length with hlt |hge
 ·rw[List.getElem?_append_left hlt]at hp;obtain⟨B,c,a1,a2,a3⟩:=h.2 i p hp;exact⟨B,c,by rw[List.getElem?_append_left (by omega)];exact a1,by rw[List.getElem?_append_left (by omega)];exact a2,a3⟩
 ·rw[List.getElem?_append_right hge]at hp;obtain⟨B,c,a1,a2,a3⟩:=h'.2 _ p hp;exact⟨B,c,by rw[List.getElem?_append_right (by omega),show i*2-vs.length=(i-its.length)*2 by omega];exact a1,by rw[List.getElem?_append_right (by omega),show i*2+1-vs.length=(i-its.length)*2+1 by omega];exact a2,a3⟩
theorem Vq{x:Int×List Int}(h:vg l x=l.length):vc l x=l.take (vg l x)++x::l.drop (vg l x):=by
 unfold vc;rw[h];simp
theorem Vr{x y:Int×List Int}(h:l[vg l x]? =some y)(hl:vb x y=true):vc l x=l.take (vg l x)++x::l.drop (vg l x):=by
 unfold vc;rw[h];simp[hl]
theorem Vi{x y:Int×List Int}(h:l[vg l x]? =some y)(hl:vb x y=false):vc l x=l:=by
 unfold vc;rw[h];simp[hl]
def vy(w:World)(ze:Nat)(its:List (Int×List Int))(e:Ending)(w':World):Prop:=∃A c vs,e= .returned (.slice A its.length c)/\Own w' ze 55 2 A its.length c vs/\ItV w' vs its/\Ext w w'
set_option maxRecDepth 20000 in
theorem Vv{len lc:Nat}{LA:Option Addr}(hO:Own w ze 55 2 LA len lc vs)(hV:ItV w vs its)(VL:ze<=w.heap.size)(hl:its.length<=1000000)(hX:Ints w XA 2 .i64 x)(hxc:x.length<=xc)(VW:xc<=9223372036854775807)(hx8:x.length<=1000)(hr8:∀p∈its,p.2.length<=1000):
  Calls Tryz.prog 87 #[.slice LA len lc,.agg #[.int .i64 a,.slice XA x.length xc]] w (vy w ze (vc its (a,x))):=by
 have zqf:its.length=len:=by have :=hO.len;have :=hV.1;omega
 have zqn:=hO.cap;have VX:=hO.arr;have hE:∀k p,its[k]? =some p->∃b o B c,LA=some ⟨b,o,none⟩/\w.cell? ⟨b,o+k*2,none⟩=some (.int .i64 p.1)/\w.cell? ⟨b,o+k*2+1,none⟩=some (.slice B p.2.length c)/\Ints w B 2 .i64 p.2/\b<w.heap.size:=fun k p hp=>by
  obtain⟨B,c,a1,a2,a3,-⟩:=hV.2 k p hp;obtain⟨b,o,hA,h1,h2⟩:=VX.at_ a1;obtain⟨b',o',hA',h1',-⟩:=VX.at_ a2;rw[hA]at hA';injection hA' with hA'
  injection hA' with z1 z2
  subst z1 z2;exact⟨b,o,B,c,hA,h1,by rw[Nat.add_assoc];exact h1',a3,h2⟩
 have HE:=Zh hE;have HV:=Zh hV;have HO:=Zh hO;have HAR:=Zh VX;have HX:=Zh hX;have yV:=Zh hr8;have HLN:=Zh zqf;obtain⟨xl,hxl⟩:∃xl,xl=x.length:=⟨_,rfl⟩;have VF:=Zh hxl;rw[<-hxl]at hxc hx8 |-
 rw[zqf]at hl;clear hE hV hO VX hX hr8 zqf hxl;unfold vy;have hxb:Ext w (w.alloc (.cells #[.int .i64 a,.slice XA xl xc] 55)):=Zi;go_enter Tryz.func87,Tryz.ntmps87;go_wp2_with fail
 go_loopw [5] (fun i wr=>∃k:Nat,k<=len/\i= .int .i64 k/\Hid (∀j y,j<k->its[j]? =some y->vb y (a,x)=true)/\Ext (w.alloc (.cells #[.int .i64 a,.slice XA xl xc] 55)) wr) (fun i _=>len-(intOf i).toNat)
 case atStart=>exact⟨0,by omega,rfl,Zh (fun j y hj=>absurd hj (by omega)),Zi⟩
 case round=>
  obtain⟨k,hk,rfl,HP,hxr⟩:=hrel;have zra:Ext w wr:=hxb.trans hxr;have HKX:Hid (∀W,Ext wr W->W.cell? ⟨w.heap.size,0,none⟩=some (.int .i64 a)/\W.cell? ⟨w.heap.size,1,none⟩=some (.slice XA xl xc)):=Zh (fun W e=>by
   obtain⟨p1,p2,-⟩:=zJ (zh (hxr.trans e) (heap_alloc_new w _));exact⟨p1,p2⟩)
  by_cases hlt:k<len
  ·obtain⟨y,hy⟩:∃y,its[k]? =some y:=⟨_,Ze (by rw[HLN.out];exact hlt)⟩;obtain⟨b,o,B,c,rfl,z1,z2,hI,z3⟩:=HE.out k y hy;have yW:=yV.out y (Zm hy);have oB:Old b w:=⟨z3⟩;have HZ:=Zh (And.intro z1 z2);obtain⟨ya,yx⟩:=y;simp only at z1 z2 hI yW;have hkd:decide ((k:Int)<(len:Int))=true:=by simp;omega
   have HLE:Hid (∀W,Ext w W->Calls Tryz.prog 167 #[.agg #[.int .i64 ya,.slice B yx.length c],.agg #[.int .i64 a,.slice XA xl xc]] W (zz W (.bool (vb (ya,yx) (a,x))))):=Zh (fun W e=>by
    rw[VF.out];exact vL hI HX.out (by omega) (by rw[<-VF.out];omega))
   have HHD:Hid (∀W,Ext wr W->W.cell? ⟨w.heap.size,0,none⟩=some (.int .i64 a)/\W.cell? ⟨w.heap.size,1,none⟩=some (.slice XA xl xc)/\W.cell? ⟨b,o+k*2,none⟩=some (.int .i64 ya)/\W.cell? ⟨b,o+k*2+1,none⟩=some (.slice B yx.length c)):=Zh (fun W e=>⟨(HKX.out W e).1,(HKX.out W e).2,(zg w (hx:=zra.trans e)).trans HZ.out.1,(zg w (hx:=zra.trans e)).trans HZ.out.2⟩)
   cases VY:vb (ya,yx) (a,x) with
   |true=>
    have yX:Hid (∀j y,j<k+1->its[j]? =some y->vb y (a,x)=true):=Zh (fun j y hj VS=>by
     rcases Zl j k with h |h
     ·exact HP.out j y h VS
     ·obtain rfl:j=k:=by omega
      rw[hy]at VS;injection VS with VS
      rw[<-VS];exact VY)
    rw[VY]at HLE;clear z1 z2 hI hy;go_wp2_with fail
    go_region_held3 (fun w'=>w'.cell? ⟨w.heap.size,0,none⟩=some (.int .i64 a)/\w'.cell? ⟨w.heap.size,1,none⟩=some (.slice XA xl xc)/\w'.cell? ⟨b,o+k*2,none⟩=some (.int .i64 ya)/\w'.cell? ⟨b,o+k*2+1,none⟩=some (.slice B yx.length c))
     (exact HHD.out _ Zi)
     ((go_at_call 167;refine(HLE.out _ Zi).mono ?_;rintro e w5 ⟨rfl,hs5⟩))
    all_goals
     go_wp2_with fail
     exact⟨⟨k+1,by omega,by go_num,yX,hxr.trans Zi⟩,by simp[intOf]<;>omega⟩
   |false=>
    have hpi:=vu its (a,x) k HP.out (by rw[HLN.out];omega) (fun y' hy'=>by rw[hy]at hy';injection hy' with hy';rw[<-hy'];exact VY);have HPI:=Zh hpi;have HY:=Zh hy;have HII:=Zh hI;rw[VY]at HLE;clear z1 z2 hI hpi hy;go_wp2_with fail
    go_region_held3 (fun w'=>w'.cell? ⟨w.heap.size,0,none⟩=some (.int .i64 a)/\w'.cell? ⟨w.heap.size,1,none⟩=some (.slice XA xl xc)/\w'.cell? ⟨b,o+k*2,none⟩=some (.int .i64 ya)/\w'.cell? ⟨b,o+k*2+1,none⟩=some (.slice B yx.length c))
     (exact HHD.out _ Zi)
     ((go_at_call 167;refine(HLE.out _ Zi).mono ?_;rintro e w5 ⟨rfl,hs5⟩))
    have hx5:Ext wr w5:=Zi;have zrM:Ext w w5:=zra.trans hx5;have VZ:Hid (∀W,Ext w W->Calls Tryz.prog 167 #[.agg #[.int .i64 a,.slice XA xl xc],.agg #[.int .i64 ya,.slice B yx.length c]] W (zz W (.bool (vb (a,x) (ya,yx))))):=Zh (fun W e=>by
     rw[VF.out];exact vL HX.out HII.out (by rw[<-VF.out];omega) (by omega))
    cases hl2:vb (a,x) (ya,yx) with
    |false=>
     have VN:Hid (vc its (a,x)=its):=Zh (Vi (y:=(ya,yx)) (by rw[HPI.out];exact HY.out) hl2);rw[hl2]at VZ;go_wp2_with fail
     go_region_held3 (fun w'=>w'.cell? ⟨w.heap.size,0,none⟩=some (.int .i64 a)/\w'.cell? ⟨w.heap.size,1,none⟩=some (.slice XA xl xc)/\w'.cell? ⟨b,o+k*2,none⟩=some (.int .i64 ya)/\w'.cell? ⟨b,o+k*2+1,none⟩=some (.slice B yx.length c))
      (exact HHD.out _ (hx5.trans Zi))
      ((go_at_call 167;refine(VZ.out _ Zi).mono ?_;rintro e w6 ⟨rfl,hs6⟩))
     have hx6:Ext w w6:=zrM.trans Zi;go_wp2_with fail
     go_ret;rw[VN.out,HLN.out];exact⟨_,lc,vs,rfl,HO.out.ext (hx6.trans Zi),HV.out.ext (hx6.trans Zi),hx6.trans Zi⟩
    |true=>
     have VN:Hid (vc its (a,x)=its.take k++((a,x)::its.drop k)):=Zh (by
      have h:=Vr (l:=its) (x:=(a,x)) (y:=(ya,yx)) (by rw[HPI.out];exact HY.out) hl2;rwa [HPI.out]at h)
     rw[hl2]at VZ;go_wp2_with fail
     go_region_held3 (fun w'=>w'.cell? ⟨w.heap.size,0,none⟩=some (.int .i64 a)/\w'.cell? ⟨w.heap.size,1,none⟩=some (.slice XA xl xc)/\w'.cell? ⟨b,o+k*2,none⟩=some (.int .i64 ya)/\w'.cell? ⟨b,o+k*2+1,none⟩=some (.slice B yx.length c))
      (exact HHD.out _ (hx5.trans Zi))
      ((go_at_call 167;refine(VZ.out _ Zi).mono ?_;rintro e w6 ⟨rfl,hs6⟩))
     have hx6:Ext w w6:=zrM.trans Zi;have VO:Ext wr w6:=hx5.trans Zi;have yz:(vs.take (k*2)).length=k*2:=by rw[List.length_take];have :=HO.out.len;omega
     have yB:(vs.drop (k*2)).length=(len-k)*2:=by rw[List.length_drop];have :=HO.out.len;omega
     have Yk:lc≠k:=by omega
     have Yl:w.heap.size<=w6.heap.size:=hx6.size;have yC:=Zh (And.intro yz yB);have HON:=Zh HV.out.one;clear yz yB;go_wp2_with (first
      |(have hh:=VG;clear hh;at_builtin;go_loud (refine Zd _ rfl _ _ 50 rfl w6.heap.size 55 (.agg #[.int .i64 0,.slice none 0 0]) 2 32 Tryz.underlying50 vh rfl (by omega) (by omega) A8 (k+1) c8 _ rfl VG.out _ (len-k) (lc-k) (vs.drop (k*2)) rfl ((HAR.out.drop (k*2)).ext (hx6.trans VH)) yC.out.2 (fun u hu=>HON.out u (List.mem_of_mem_drop hu)) (by omega) (by have :=VH.size;omega) ?_);intro A9 c9 w9 zqd hg;have HO9:=Zh zqd;have hx9:Ext w6 w9:=hg.ext VH Zr;clear zqd hg)
      |(have hh:=HO7;clear hh;at_builtin;go_loud (refine Zd _ rfl _ _ 50 rfl w6.heap.size 55 (.agg #[.int .i64 0,.slice none 0 0]) 2 32 Tryz.underlying50 vh rfl (by omega) (by omega) A7 k c7 _ rfl (HO7.out.ext Zi) (some ⟨w7.heap.size,0,none⟩) 1 1 [.int .i64 a,.slice XA xl xc] rfl (Arr.new w7 55 #[.int .i64 a,.slice XA xl xc]) (by simp) (by simp[Value.oneCell']) (by omega) (by have :=VE.size;simp;omega) ?_);intro A8 c8 w8 zqd hg;have VG:=Zh zqd;have VH:Ext w6 w8:=hg.ext (VE.trans Zi) Zr;clear zqd hg)
      |(at_builtin;go_loud (refine Zd _ rfl _ _ 50 rfl w6.heap.size 55 (.agg #[.int .i64 0,.slice none 0 0]) 2 32 Tryz.underlying50 vh rfl (by omega) (by omega) none 0 0 [] rfl (Own.nil _ _ _ _) _ k lc (vs.take (k*2)) rfl ((HAR.out.ext (hx6.trans Zi)).take (k*2)) yC.out.1 (fun u hu=>HON.out u (List.mem_of_mem_take hu)) (by omega) (by simp) ?_);intro A7 c7 w7 zqd hg;rw[Nat.zero_add,List.nil_append]at zqd;rw[Nat.zero_add];have HO7:=Zh zqd;have VE:Ext w6 w7:=hg.ext Zi (by simp);obtain⟨x0,x1⟩:=HKX.out w7 (VO.trans VE);clear zqd hg))
     have hpl:(vc its (a,x)).length=k+1+(len-k):=by
      rw[VN.out,List.length_append,List.length_cons,List.length_take,List.length_drop,HLN.out];omega
     have VI:Ext w w9:=hx6.trans hx9;have zrb:ItV w [.int .i64 a,.slice XA xl xc] [(a,x)]:=by
      have h:=ItV.snoc (a:=a) (ItV.nil w) HX.out (by rw[<-VF.out];exact hxc) VW;rw[<-VF.out]at h;exact h
     have hit:ItV w (vs.take (k*2)++[.int .i64 a,.slice XA xl xc]++vs.drop (k*2)) (vc its (a,x)):=by
      have h:=((HV.out.take k).append zrb).append (HV.out.drop k);rw[VN.out];simpa[List.append_assoc] using h
     rw[<-hpl]at HO9 |-
     go_ret;exact⟨A9,c9,_,rfl,(HO9.out.lower (Nat.le_trans VL hx6.size)).ext Zi,hit.ext (VI.trans Zi),VI.trans Zi⟩
  ·obtain rfl:k=len:=by omega
   have hpi:=vu its (a,x) k HP.out (by rw[HLN.out];omega) (fun y' hy'=>by rw[List.getElem?_eq_none (by rw[HLN.out];omega)]at hy';cases hy');have VN:Hid (vc its (a,x)=its.take k++((a,x)::its.drop k)):=Zh (by
    have h:=Vq (l:=its) (x:=(a,x)) (by rw[hpi,HLN.out]);rwa [hpi]at h)
   have hkd:decide ((k:Int)<(k:Int))=false:=by simp
   clear hpi hlt hk;go_wp2_with fail
   go_quiet (fail)
   go_wp2_with fail
   go_quiet (fail)
   rename_i nq0 Ka ha Kb hb
   have VO:Ext wr ((wr.drewN nq0).drewN nq):=Zi;have hx6:Ext w ((wr.drewN nq0).drewN nq):=zra.trans VO;generalize (wr.drewN nq0).drewN nq=w6 at*
   have VP:Hid (vc its (a,x)=its++[(a,x)]):=Zh (by
    rw[VN.out,List.take_of_length_le (by rw[HLN.out];exact Zr),List.drop_eq_nil_of_le (by rw[HLN.out];exact Zr)])
   have ye:Hid (vs.length=k*2):=Zh HO.out.len;have HON:=Zh HV.out.one;rcases HO.out.2 with ⟨hv,hn⟩ |⟨g,cap,cur,hv,-⟩
   ·injection hv with h1 h2 h3
    subst h1 h2 h3;go_wp2_with (first
     |(have hh:=VG;clear hh;at_builtin;go_loud (refine Zd _ rfl _ _ 50 rfl w6.heap.size 55 (.agg #[.int .i64 0,.slice none 0 0]) 2 32 Tryz.underlying50 vh rfl (by omega) (by omega) A8 (0+1) c8 _ rfl VG.out _ 0 _ [] rfl (Arr.nil (e:=55)) rfl (by simp) (by omega) (by have :=VH.size;omega) ?_);intro A9 c9 w9 zqd hg;have HO9:=Zh zqd;have hx9:Ext w6 w9:=hg.ext VH Zr;clear zqd hg)
     |(have hh:=HO7;clear hh;at_builtin;go_loud (refine Zd _ rfl _ _ 50 rfl w6.heap.size 55 (.agg #[.int .i64 0,.slice none 0 0]) 2 32 Tryz.underlying50 vh rfl (by omega) (by omega) A7 0 c7 _ rfl (HO7.out.ext Zi) (some ⟨w7.heap.size,0,none⟩) 1 1 [.int .i64 a,.slice XA xl xc] rfl (Arr.new w7 55 #[.int .i64 a,.slice XA xl xc]) (by simp) (by simp[Value.oneCell']) (by omega) (by have :=VE.size;simp;omega) ?_);intro A8 c8 w8 zqd hg;have VG:=Zh zqd;have VH:Ext w6 w8:=hg.ext (VE.trans Zi) Zr;clear zqd hg)
     |(at_builtin;go_loud (refine Zd _ rfl _ _ 50 rfl w6.heap.size 55 (.agg #[.int .i64 0,.slice none 0 0]) 2 32 Tryz.underlying50 vh rfl (by omega) (by omega) none 0 0 [] rfl (Own.nil _ _ _ _) _ 0 _ vs rfl (HO.out.arr.ext hx6) ye.out (fun u hu=>HON.out u hu) (by omega) (by simp) ?_);intro A7 c7 w7 zqd hg;rw[Nat.zero_add,List.nil_append]at zqd;rw[Nat.zero_add];have HO7:=Zh zqd;have VE:Ext w6 w7:=hg.ext Zi (by simp);obtain⟨x0,x1⟩:=HKX.out w7 (VO.trans VE);clear zqd hg))
    have VI:Ext w w9:=hx6.trans hx9;have zrb:ItV w [.int .i64 a,.slice XA xl xc] [(a,x)]:=by
     have h:=ItV.snoc (a:=a) (ItV.nil w) HX.out (by rw[<-VF.out];exact hxc) VW;rw[<-VF.out]at h;exact h
    have hit:ItV w (vs++[.int .i64 a,.slice XA xl xc]++[]) (vc its (a,x)):=by
     rw[List.append_nil,VP.out];exact HV.out.append zrb
    have hpl:(vc its (a,x)).length=0+1:=by rw[VP.out,List.length_append,HLN.out];rfl
    have h9:=HO9.out;rw[Nat.add_zero]at h9;rw[hpl];go_ret;exact⟨A9,c9,rfl,_,(h9.lower (Nat.le_trans VL hx6.size)).ext Zi,hit.ext (VI.trans Zi),VI.trans Zi⟩
   ·injection hv with h1 h2 h3
    subst h1 h3;by_cases hcc:lc=k
    ·subst hcc;go_wp2_with (first
      |(have hh:=VG;clear hh;at_builtin;go_loud (refine Zd _ rfl _ _ 50 rfl w6.heap.size 55 (.agg #[.int .i64 0,.slice none 0 0]) 2 32 Tryz.underlying50 vh rfl (by omega) (by omega) A8 (lc+1) c8 _ rfl VG.out _ 0 _ [] rfl (Arr.nil (e:=55)) rfl (by simp) (by omega) (by have :=VH.size;omega) ?_);intro A9 c9 w9 zqd hg;have HO9:=Zh zqd;have hx9:Ext w6 w9:=hg.ext VH Zr;clear zqd hg)
      |(have hh:=HO7;clear hh;at_builtin;go_loud (refine Zd _ rfl _ _ 50 rfl w6.heap.size 55 (.agg #[.int .i64 0,.slice none 0 0]) 2 32 Tryz.underlying50 vh rfl (by omega) (by omega) A7 lc c7 _ rfl (HO7.out.ext Zi) (some ⟨w7.heap.size,0,none⟩) 1 1 [.int .i64 a,.slice XA xl xc] rfl (Arr.new w7 55 #[.int .i64 a,.slice XA xl xc]) (by simp) (by simp[Value.oneCell']) (by omega) (by have :=VE.size;simp;omega) ?_);intro A8 c8 w8 zqd hg;have VG:=Zh zqd;have VH:Ext w6 w8:=hg.ext (VE.trans Zi) Zr;clear zqd hg)
      |(at_builtin;go_loud (refine Zd _ rfl _ _ 50 rfl w6.heap.size 55 (.agg #[.int .i64 0,.slice none 0 0]) 2 32 Tryz.underlying50 vh rfl (by omega) (by omega) none 0 0 [] rfl (Own.nil _ _ _ _) _ lc _ vs rfl (HO.out.arr.ext hx6) ye.out (fun u hu=>HON.out u hu) (by omega) (by simp) ?_);intro A7 c7 w7 zqd hg;rw[Nat.zero_add,List.nil_append]at zqd;rw[Nat.zero_add];have HO7:=Zh zqd;have VE:Ext w6 w7:=hg.ext Zi (by simp);obtain⟨x0,x1⟩:=HKX.out w7 (VO.trans VE);clear zqd hg))
     have VI:Ext w w9:=hx6.trans hx9;have zrb:ItV w [.int .i64 a,.slice XA xl xc] [(a,x)]:=by
      have h:=ItV.snoc (a:=a) (ItV.nil w) HX.out (by rw[<-VF.out];exact hxc) VW;rw[<-VF.out]at h;exact h
     have hit:ItV w (vs++[.int .i64 a,.slice XA xl xc]++[]) (vc its (a,x)):=by
      rw[List.append_nil,VP.out];exact HV.out.append zrb
     have hpl:(vc its (a,x)).length=lc+1:=by rw[VP.out,List.length_append,HLN.out];rfl
     have h9:=HO9.out;rw[Nat.add_zero]at h9;rw[hpl];go_ret;exact⟨A9,c9,rfl,_,(h9.lower (Nat.le_trans VL hx6.size)).ext Zi,hit.ext (VI.trans Zi),VI.trans Zi⟩
    ·go_wp2_with (first
      |(have hh:=VG;clear hh;at_builtin;go_loud (refine Zd _ rfl _ _ 50 rfl w6.heap.size 55 (.agg #[.int .i64 0,.slice none 0 0]) 2 32 Tryz.underlying50 vh rfl (by omega) (by omega) A8 (k+1) c8 _ rfl VG.out _ 0 _ [] rfl (Arr.nil (e:=55)) rfl (by simp) (by omega) (by have :=VH.size;omega) ?_);intro A9 c9 w9 zqd hg;have HO9:=Zh zqd;have hx9:Ext w6 w9:=hg.ext VH Zr;clear zqd hg)
      |(have hh:=HO7;clear hh;at_builtin;go_loud (refine Zd _ rfl _ _ 50 rfl w6.heap.size 55 (.agg #[.int .i64 0,.slice none 0 0]) 2 32 Tryz.underlying50 vh rfl (by omega) (by omega) A7 k c7 _ rfl (HO7.out.ext Zi) (some ⟨w7.heap.size,0,none⟩) 1 1 [.int .i64 a,.slice XA xl xc] rfl (Arr.new w7 55 #[.int .i64 a,.slice XA xl xc]) (by simp) (by simp[Value.oneCell']) (by omega) (by have :=VE.size;simp;omega) ?_);intro A8 c8 w8 zqd hg;have VG:=Zh zqd;have VH:Ext w6 w8:=hg.ext (VE.trans Zi) Zr;clear zqd hg)
      |(at_builtin;go_loud (refine Zd _ rfl _ _ 50 rfl w6.heap.size 55 (.agg #[.int .i64 0,.slice none 0 0]) 2 32 Tryz.underlying50 vh rfl (by omega) (by omega) none 0 0 [] rfl (Own.nil _ _ _ _) _ k _ vs rfl (HO.out.arr.ext hx6) ye.out (fun u hu=>HON.out u hu) (by omega) (by simp) ?_);intro A7 c7 w7 zqd hg;rw[Nat.zero_add,List.nil_append]at zqd;rw[Nat.zero_add];have HO7:=Zh zqd;have VE:Ext w6 w7:=hg.ext Zi (by simp);obtain⟨x0,x1⟩:=HKX.out w7 (VO.trans VE);clear zqd hg))
     have VI:Ext w w9:=hx6.trans hx9;have zrb:ItV w [.int .i64 a,.slice XA xl xc] [(a,x)]:=by
      have h:=ItV.snoc (a:=a) (ItV.nil w) HX.out (by rw[<-VF.out];exact hxc) VW;rw[<-VF.out]at h;exact h
     have hit:ItV w (vs++[.int .i64 a,.slice XA xl xc]++[]) (vc its (a,x)):=by
      rw[List.append_nil,VP.out];exact HV.out.append zrb
     have hpl:(vc its (a,x)).length=k+1:=by rw[VP.out,List.length_append,HLN.out];rfl
     have h9:=HO9.out;rw[Nat.add_zero]at h9;rw[hpl];go_ret;exact⟨A9,c9,rfl,_,(h9.lower (Nat.le_trans VL hx6.size)).ext Zi,hit.ext (VI.trans Zi),VI.trans Zi⟩
theorem Vw(hr:RedOK m){b:Int}(hb:0<=b)(hb1:b<1073741824)(k:Nat):∀t:List Int,k<m.length->t.length=m.length-1-k->0<=left (ent m) b (k+1) t->
  ((vf m b k t).length:Int)=zQ (ZR m b k t) (m.length-1):=by
 induction k with
 |zero=>
  intro t hk ht h0;obtain⟨v1,v2,-⟩:=znc hr hb hb1 hk ht h0;rw[zgU,vf];simp only[zQ,List.length_map,List.length_range];rw[if_pos (by omega)];unfold QW;omega
 |succ k ih=>
  intro t hk ht h0;have key:∀q:Nat,q<=QW m b (k+1) t->(((List.range q).flatMap fun(j:Nat)=>vf m b k ((zX m b (k+1) t+(j:Int))::t)).length:Int)=zQ (ZA m b k t q) (m.length-1):=by
   intro q;induction q with
   |zero=>intro _;simp[ZA,zQ]
   |succ q ihq=>
    intro hq;have a1:=ihq (by omega);have b1:=ih ((zX m b (k+1) t+(q:Int))::t) (by omega) (by simp[ht];omega) (J2 hr t hk ht h0 (j:=q) (by unfold QW Zb zX at hq;unfold zS;omega));rw[List.range_succ,List.flatMap_append,List.flatMap_singleton,zgT,zf1,List.length_append,Int.natCast_add];omega
  have k1:=key _ Zr;rw[zm8 hr hk b t ht,vf];simp only[zQ];rw[if_neg (by omega)];omega
theorem Vx(zqJ:Zt m=true){b:Nat}(hb1:(b:Int)<1073741824):((vf m b (m.length-1) []).length:Int)<=qV m b:=by
 have hr:=qT zqJ;have hl:=Qf hr.small;have hst:=(zbx zqJ (b:=b) hb1).1;have h1:=Vw hr (b:=(b:Int)) (by omega) hb1 (m.length-1) [] (by omega) (by simp) (zbw hr (by omega));have h2:=zng hr (b:=(b:Int)) (by omega);have h3:(qK m b).getD (m.length-1) 0=zQ (ZR m b (m.length-1) []) (m.length-1):=by
  rw[h2,Vo (by simp;omega)];simp[List.getD,show m.length-1<m.length by omega]
 have h4:=zbS (cs:=qK m b) (fun x hx=>by have :=hst.one x hx;omega) (m.length-1);have h5:=hst.sum;omega
def vv(m:List (List Int))(l:List (Int×List Int))(x:List Int):List (Int×List Int):=if 0<zZ x then vc l (zi m x,x) else l
theorem vT(m:List (List Int))(xs:List (List Int))(x:List Int):va m (xs++[x])=vv m (va m xs) x:=by
 unfold va vv;rw[List.foldl_append];rfl
theorem Vs(l:List (Int×List Int))(x:Int×List Int):(vc l x).length<=l.length+1:=by
 unfold vc;split
 ·split
  ·simp only[List.length_append,List.length_take,List.length_cons,List.length_drop];omega
  ·omega
 ·simp
theorem Vj(m:List (List Int))(xs:List (List Int)):∀l:List (Int×List Int),(xs.foldl (fun l x=>if 0<zZ x then vc l (zi m x,x) else l) l).length<=l.length+xs.length:=by
 induction xs with
 |nil=>intro l;exact Zr
 |cons x xs ih=>
  intro l;rw[List.foldl_cons,List.length_cons];refine Nat.le_trans (ih _) ?_;split
  ·have :=Vs l (zi m x,x);omega
  ·omega
theorem vz(m:List (List Int))(xs:List (List Int)):(va m xs).length<=xs.length:=by
 have :=Vj m xs [];unfold va;simpa using this
theorem v7{xs:List (List Int)}:∀p∈va m xs,p.2∈xs:=fun p hp=>by
 rcases((vJ m xs [] List.Pairwise.nil).2 p).1 hp with h |⟨x,hx,-,rfl⟩
 ·simp at h
 ·exact hx
theorem vN(h:zZ x≠0):zW x=x↔0<zZ x:=by
 constructor
 ·intro e;have :=zfY x h;rwa [e]at this
 ·exact vX
def Vk(w:World)(its:List (Int×List Int))(e:Ending)(w':World):Prop:=∃A c vs,e= .returned (.slice A its.length c)/\Own w' w.heap.size 55 2 A its.length c vs/\ItV w' vs its/\Step w w'
def v8(w w3:World)(m xs:List (List Int))(N:Nat)(s5 i:Value)(wr:World):Prop:=∃(k:Nat) (A5:Option Addr) (c5:Nat) (vs:List Value),k<=N/\i= .int .i64 k/\s5= .slice A5 (va m (xs.take k)).length c5/\Hid (Own wr w.heap.size 55 2 A5 (va m (xs.take k)).length c5 vs)/\Hid (ItV wr vs (va m (xs.take k)))/\Ext w3 wr
set_option maxRecDepth 20000 in
theorem Vl(hM:MatA w0 A m)(hL:LLLed m)(h1:m.length=n)(hb:0<=za)(hb1:za<1073741824)(zrx:((vf m za (n-1) []).length)<=1000000)[hx:Ext w0 w]:
  Calls Tryz.prog 32 #[.slice A n c,.int .i64 za] w (Vk w (va m (vf m za (n-1) []))):=by
 have hr:=qT hL.red;have hn8:=hL.len8;have hn1:=hL.len1;have HOF:Hid (∀W,Ext w0 W->Calls Tryz.prog 84 #[.slice A n c] W (zg0 W m n)):=Zh (fun W e=>znj hM hL h1);have zqW:=zbw hr hb;have zqi:=vV hr hb;rw[h1]at zqW zqi;obtain⟨xs,hxs⟩:∃xs,xs=vf m za (n-1) []:=⟨_,rfl⟩;have HLV:Hid (∀(W:World)(SB DB:Option Addr)(sc dc:Nat),FrV W m SB DB->Calls Tryz.prog 85 #[.agg #[.int .i64 n,.slice SB n sc,.slice DB (n+1) dc],.int .i64 za,.slice none 0 0,.slice none 0 0] W (fun e w'=>∃A c vs,e= .returned (.slice A xs.length c)/\Arr w' A 55 vs/\ItV w' vs (vt m xs)/\Ext W w')):=Zh (fun W SB DB sc dc hF=>by
  have :=vZ (ze:=W.heap.size) hL h1 hb hb1 (n-1) W SB DB none none sc dc 0 0 0 0 [] [] [] (by omega) hF Ints.nil rfl (fun a ha=>by simp at ha) zqW (Own.nil _ _ _ _) (ItV.nil _) Zr (by omega);refine this.mono ?_;rintro e w' ⟨A,c,vs,rfl,hO,hV,hG⟩;rw[<-hxs,Nat.zero_add,List.nil_append] at*
  exact⟨A,c,vs,rfl,hO.arr,hV,hG.ext (Ext.refl _) Zr⟩)
 rw[<-hxs]at zrx |-
 rw[<-hxs]at zqi;have yD:Hid (∀x∈xs,x.length=n/\(∀a∈x,-1099511627776<=a/\a<=1099511627776)):=Zh (fun x hx=>by
  obtain⟨h2,h3⟩:=(zqi x).1 hx;refine⟨h2,fun a ha=>?_⟩;have h4:=zlm hr hb hb1 x (by omega) h3;obtain⟨i,hi⟩:=List.getElem?_of_mem ha;have :=JV x i a hi;omega)
 have HTK:Hid (∀(k:Nat)(x:List Int),xs[k]? =some x->va m (xs.take (k+1))=vv m (va m (xs.take k)) x):=Zh (fun k x hk=>by rw[List.take_add_one,hk];exact vT m _ _);have HIL:Hid (∀k,(va m (xs.take k)).length<=1000000):=Zh (fun k=>by
  have h2:=vz m (xs.take k);rw[List.length_take]at h2;omega)
 have yY:Hid (∀k,∀p∈va m (xs.take k),p.2.length<=1000):=Zh (fun k p hp=>by
  have :=(yD.out p.2 (List.mem_of_mem_take (v7 p hp))).1;omega)
 unfold Vk;have hn9:n<=8:=by omega
 clear hM hL hr zqW zqi hxs h1;go_enter Tryz.func32,Tryz.ntmps32;go_wp2_with (first
  |(go_at_call 84;refine(HOF.out _ Zi).mono ?_;rintro e w2 ⟨SB,sc,DB,dc,rfl,hF,-,-,-,-,hs2⟩)
  |(go_at_call 85;refine(HLV.out _ _ _ _ _ hF).mono ?_;rintro e w3 ⟨A3,c3,vs3,rfl,yE,hV3,hx3⟩;have yF:=Zh yE;have HV3:=Zh hV3;have zqD:Ext w w3:=(Zi:Ext w w2).trans hx3;clear yE hV3))
 obtain⟨N,hN⟩:∃N,N=xs.length:=⟨_,rfl⟩;have HN:=Zh hN;have hN6:N<=1000000:=by omega
 rw[<-hN];clear hN zrx;go_loopw [5,15] (fun s5 i wr=>v8 w w3 m xs N s5 i wr) (fun _ i _=>N-(intOf i).toNat)
 case atStart=>
  unfold v8;exact⟨0,none,0,[],by omega,rfl,rfl,Zh (Own.nil _ _ _ _),Zh (ItV.nil _),Zi⟩
 case round=>
  unfold v8 at hrel;obtain⟨k,A5,c5,vs,hk,rfl,rfl,HO5,VT,hxr⟩:=hrel;have zra:Ext w wr:=zqD.trans hxr;by_cases hlt:k<N
  ·obtain⟨x,hxk⟩:∃x,xs[k]? =some x:=⟨_,Ze (by rw[<-HN.out];exact hlt)⟩;obtain⟨hxl,hxb⟩:=yD.out x (Zm hxk);obtain⟨B,cx,a1,a2,a3,a4,a5⟩:=HV3.out.2 k (zi m x,x) (by unfold vt;rw[List.getElem?_map,hxk];rfl);obtain⟨b,o,rfl,z1,z3⟩:=yF.out.at_ a1;obtain⟨b',o',hA',z2,-⟩:=yF.out.at_ a2;injection hA' with hA'
   injection hA' with y1 y2
   subst y1 y2;rw[<-Nat.add_assoc]at z2;simp only at a3 a4 z1 z2;have oB:Old b w3:=⟨z3⟩;have hc1:wr.cell? ⟨b,o+k*2,none⟩=some (.int .i64 (zi m x)):=(zg w3).trans z1;have hc2:wr.cell? ⟨b,o+k*2+1,none⟩=some (.slice B x.length cx):=(zg w3).trans z2;have HCA:=Zh (fun W(e:Ext w3 W)=>Vf (w:=W) (c:=cx) a3 (by omega) hxb);have HT:=Zh (HTK.out k x hxk);have yf:=Zh a3;unfold vK at HCA;rw[hxl]at HCA hc2 a4
   have VK:=Zh hxl;clear a1 a2 a3 z1 z2 hxk hxl hxb;obtain⟨nv,hnv⟩:∃nv,nv=zi m x:=⟨_,rfl⟩;have HNV:=Zh hnv;rw[<-hnv]at hc1;clear hnv;by_cases hz:zZ x=0
   ·have hps:vv m (va m (xs.take k)) x=va m (xs.take k):=by unfold vv;rw[if_neg (by omega)]
    have HPS:=Zh (HT.out.trans hps);clear hps;go_wp2_with (go_at_call 86;refine(HCA.out _ Zi).mono ?_;rintro e w5 (⟨-,rfl,hs5⟩ |⟨zrc,-⟩);(rotate_left;(exact absurd hz zrc)))
    refine⟨⟨k+1,A5,c5,vs,by omega,by go_num,by rw[HPS.out],Zh ?_,Zh ?_,Zi⟩,by simp[intOf]<;>omega⟩
    ·rw[HPS.out];exact HO5.out.ext Zi
    ·rw[HPS.out];exact VT.out.ext Zi
   ·by_cases hp:0<zZ x
    ·have hcx:zW x=x:=(vN hz).2 hp;have hlx:zB x (zW x)=0:=by rw[hcx];exact zfn x
     have HPS:Hid (va m (xs.take (k+1))=vc (va m (xs.take k)) (zi m x,x)):=Zh (by rw[HT.out];unfold vv;rw[if_pos hp]);have HCM:Hid (∀(W1 W:World)C d,Ints W1 C 2 .i64 (zW x)->Ext W1 W->Ext w3 W->Calls Tryz.prog 42 #[.slice B n cx,.slice C n d] W (Vn W (.int .i64 0))):=Zh (fun W1 W C d i1 e1 e2=>by
      have h:=vi (w0:=W) (w:=W) (c:=cx) (d:=d) (yf.out.ext e2) (i1.ext e1) (by rw[VK.out];omega) (by rw[zaG,VK.out];omega);rw[zaG,hlx,VK.out]at h;exact h)
     have V0:Hid (∀W,Ext wr W->Calls Tryz.prog 87 #[.slice A5 (va m (xs.take k)).length c5,.agg #[.int .i64 nv,.slice B n cx]] W (vy W w.heap.size (vc (va m (xs.take k)) (zi m x,x)))):=Zh (fun W e=>by
      have h:=Vv (a:=nv) (HO5.out.ext e) (VT.out.ext e) (zra.trans e).size (HIL.out k) (yf.out.ext (hxr.trans e)) (by rw[VK.out];exact a4) a5 (by rw[VK.out];omega) (yY.out k);rw[VK.out,HNV.out]at h;rw[HNV.out];exact h)
     unfold vy at V0;rw[<-HPS.out]at V0;clear hcx hlx;obtain⟨I2,hI2⟩:∃I2,I2=va m (xs.take (k+1)):=⟨_,rfl⟩;rw[<-hI2]at V0;have yg:=Zh hI2;clear hI2;go_wp2_with (first
      |(go_at_call 86;refine(HCA.out _ Zi).mono ?_;rintro e w5 (⟨zrc,-⟩ |⟨-,C5,d5,rfl,hI5,-,-,hs5⟩);(exact absurd zrc hz);have HI5:=Zh hI5;clear hI5)
      |(go_at_call 42;refine(HCM.out _ _ _ _ HI5.out Zi Zi).mono ?_;rintro e w6 ⟨rfl,nq,rfl⟩)
      |(go_at_call 87;refine(V0.out _ Zi).mono ?_;rintro e w7 ⟨A7,c7,vs7,rfl,hO7,yG,hx7⟩;have HO7:=Zh hO7;have yZ:=Zh yG;have Ya:Ext w3 w7:=(Zi:Ext w3 (w5.drewN nq)).trans hx7;clear hO7 yG))
     exact⟨⟨k+1,A7,c7,vs7,by omega,by go_num,by rw[yg.out],by rw[<-yg.out];exact HO7,by rw[<-yg.out];exact yZ,Ya.trans Zi⟩,by simp[intOf]<;>omega⟩
    ·have hlx:zB x (zW x)≠0:=fun h=>hp ((vN hz).1 (zbr _ _ h).symm)
     have hle:(zB x (zW x)==0)=false:=by simpa using hlx
     have HPS:Hid (va m (xs.take (k+1))=va m (xs.take k)):=Zh (by rw[HT.out];unfold vv;rw[if_neg hp]);have HCM:Hid (∀(W1 W:World)C d,Ints W1 C 2 .i64 (zW x)->Ext W1 W->Ext w3 W->Calls Tryz.prog 42 #[.slice B n cx,.slice C n d] W (Vn W (.int .i64 (zB x (zW x))))):=Zh (fun W1 W C d i1 e1 e2=>by
      have h:=vi (w0:=W) (w:=W) (c:=cx) (d:=d) (yf.out.ext e2) (i1.ext e1) (by rw[VK.out];omega) (by rw[zaG,VK.out];omega);rw[zaG,VK.out]at h;exact h)
     clear hlx;generalize zB x (zW x)=lx at*
     go_wp2_with (first
      |(go_at_call 86;refine(HCA.out _ Zi).mono ?_;rintro e w5 (⟨zrc,-⟩ |⟨-,C5,d5,rfl,hI5,-,-,hs5⟩);(exact absurd zrc hz);have HI5:=Zh hI5;clear hI5)
      |(go_at_call 42;refine(HCM.out _ _ _ _ HI5.out Zi Zi).mono ?_;rintro e w6 ⟨rfl,nq,rfl⟩))
     refine⟨⟨k+1,A5,c5,vs,by omega,by go_num,by rw[HPS.out],Zh ?_,Zh ?_,Zi⟩,by simp[intOf]<;>omega⟩
     ·rw[HPS.out];exact HO5.out.ext Zi
     ·rw[HPS.out];exact VT.out.ext Zi
  ·obtain rfl:k=N:=by omega
   have htk:xs.take k=xs:=List.take_of_length_le (by rw[<-HN.out];exact Zr);rw[htk]at HO5 VT;rw[htk];go_wp2_with fail
   go_ret;exact⟨A5,c5,vs,rfl,HO5.out,VT.out,zra.toStep⟩
end Go.Proofs.YtpijjipngkdhdaaGreat

