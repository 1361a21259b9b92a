import Derived.Test.YtcmkopogafchiaaGreatI20
set_option maxHeartbeats 8000000
set_option linter.unusedVariables false
set_option linter.unusedSimpArgs false
namespace Go.Proofs.YtcmkopogafchiaaGreat
open List (getElem?_append_left getElem?_append_right length_append length_cons length_take getElem?_take length_drop nil_append append_nil)
variable {a budget za:Int} {its l:List (Int×List Int)} {m:List (List Int)} {x:List Int} {vs:List Value} {c i j n p xc zf:Nat} {f g:Nat->Nat->Int} {A XA:Option Addr} {e:TypeId} {w w' w0:World}
section
open Go.RowKit
open La
set_option maxRecDepth 20000 in
theorem zpg{most:Int}(hM:MatA w0 A m)(hL:LLLed m)(h1:m.length=n)(hb0:0<=za)(hb1:za<=most)(hu0:0<=budget)(hu1:budget<=1000000)[hx:Ext w0 w]:
  Cq 93 #[.slice A n c,.int .i64 za,.int .i64 most,.int .i64 budget] w (zF w (.int .i64 0)):=by
 have HR:=Zh (fun W(e:Ext w0 W)=>zoD (w:=W) (c:=c) hM hL h1 hL.fits hL.bd);have c1:decide (za<0)=false:=by simp;omega
 have c2:decide (most<za)=false:=by simp;omega
 have c3:decide (budget<0)=false:=by simp;omega
 have c4:decide (1000000<budget)=false:=by simp;omega
 clear hM hL h1;go_enter Tryz.func93,Tryz.ntmps93;go_wp2_with (go_at_call 79;refine(HR.out _ Zi).mono ?_;rintro e w2 ⟨rfl,hs2⟩)
 go_ret;exact⟨rfl,Step.of _ _⟩
def zeG(w:World)(m:List (List Int))(n:Nat)(za budget:Int)(e:Ending)(w':World):Prop:=
 (Z4 m za<=budget/\∃g,e= .returned (.tuple #[.slice (some ⟨g,0,none⟩) n n,.int .i64 0])/\Row w' g 3 .i64 (qz m za)/\w.heap.size<=g/\Step w w')∨(budget<Z4 m za/\e= .returned (.tuple #[.slice none 0 0,.int .i64 9])/\Step w w')
set_option maxRecDepth 20000 in
theorem zph(hM:MatA w0 A m)(hL:LLLed m)(h1:m.length=n)(hb:0<=za)(hb1:za<1073741824)(hu0:0<=budget)(hu1:budget<=1000000)[hx:Ext w0 w]:
  Cq 54 #[.slice A n c,.int .i64 za,.int .i64 budget] w (zeG w m n za budget):=by
 have hr:=Qi hL.red;have hn8:=hL.len8;have hn1:=hL.len1;have HAR:Hid (∀W,Ext w0 W->Cq 93 #[.slice A n c,.int .i64 za,.int .i64 4611686018427387904,.int .i64 budget] W (zF W (.int .i64 0))):=Zh (fun W e=>zpg hM hL h1 hb (by omega) hu0 hu1);have HOF:Hid (∀W,Ext w0 W->Cq 44 #[.slice A n c] W (zeD W m n)):=Zh (fun W e=>zib hM hL h1);have hmk:=je (P:=Tryz.prog) (k:= .i64) Tryz.underlying57 Jp (by omega) (n:Int) (by omega) (by omega)
 simp only[Int.toNat_natCast]at hmk;have h0n:∀x∈List.replicate n (0:Int),0<=x:=fun x hx=>by rw[List.eq_of_mem_replicate hx];omega
 have hs0:(List.replicate n (0:Int)).sum=0:=by simp
 have zs9:=J3 hr hb;have HCN:Hid (∀(W:World)(SB DB:Option Addr)(sc dc g:Nat),FrV W m SB DB->Row W g 3 .i64 (List.replicate n 0)->Cq 94 #[.agg #[.int .i64 n,.slice SB n sc,.slice DB (n+1) dc],.int .i64 za,.slice none 0 0,.slice (some ⟨g,0,none⟩) n n,.int .i64 budget] W (zaN W m za budget (n-1) [] (List.replicate n 0) g)):=Zh (fun W SB DB sc dc g hF hR=>
  zpf hL h1 hb hb1 hu0 hu1 (n-1) W SB DB none sc dc 0 0 g [] _ (by omega) hF Ints.nil rfl (fun a ha=>by simp at ha) (by rw[h1]at zs9;exact zs9) hR (by simp) h0n (by rw[hs0];exact hu0))
 have e1:=zo2 hr hb;have e2:=zh8 hr hb;rw[h1]at e1 e2;have HT:Hid (Z4 m za=zI (ZY m za (n-1) [])):=Zh e1;have HS:Hid (qz m za=Zt (List.replicate n 0) (ZY m za (n-1) [])):=Zh e2;unfold zaN at HCN;rw[hs0,Int.zero_add,<-HT.out,<-HS.out]at HCN;unfold zeG;generalize Z4 m za=tot at*
 generalize qz m za=st at*
 clear hr hL h1 zs9 e1 e2 HT HS h0n hs0 hM;obtain⟨zs,hzs⟩:∃zs,zs=List.replicate n (0:Int):=⟨_,rfl⟩;have HZS:=Zh hzs;rw[<-hzs]at HCN;clear hzs;go_enter Tryz.func54,Tryz.ntmps54;go_wp2_with (first
  |(go_at_call 93;refine(HAR.out _ Zi).mono ?_;rintro e w1 ⟨rfl,hs1⟩)
  |(go_at_call 44;refine(HOF.out _ Zi).mono ?_;rintro e w2 ⟨SB,sc,DB,dc,rfl,hF,-,-,-,-,hs2⟩;have hR2:Row w2 w1.heap.size 3 .i64 zs:=(by rw[HZS.out];exact(Row.made w1 n .i64 3).ext Zi);have ztD:Ext w1 w2:=Zi;have zxJ:Ext w w2:=Zi;have hws:w.heap.size<=w1.heap.size:=(Zi:Ext w w1).size)
  |(go_at_call 94;refine(HCN.out _ _ _ _ _ _ hF hR2).mono ?_;rintro e w6 ⟨ok,cs2,rfl,hO6,hR6,hl6,ht6,hf6⟩;have hx6:Ext w w6:=hO6.ext zxJ hws;have HR6:=Zh hR6;have HT6:=Zh ht6;have HF6:=Zh hf6;clear hR6 ht6 hf6 hO6;cases ok))
 ·go_ret2
  exact .inr ⟨HF6.out trivial,rfl,hx6.toStep⟩
 ·obtain⟨h8,h9⟩:=HT6.out trivial;have h10:=HR6.out;rw[h8]at h10;go_ret2
  exact .inl ⟨h9,_,rfl,h10,hws,hx6.toStep⟩
theorem zpi(hn:AllLen m m.length):ql m 0=m:=by
 unfold ql;rw[Nat.sub_zero];have:tab (fun i j=>E (ent m) 0 (0+i) (0+j)) m.length m.length=tab (fun i j=>ent m i j) m.length m.length:=zgI fun i j _ _=>by rw[Nat.zero_add,Nat.zero_add];rfl
 rw[this];exact(zhD rfl hn).symm
theorem zpj(hL:LLLed m)(hxl:x.length=m.length)(hxb:∀a∈x,-9223372036854775808<=a/\a<=9223372036854775807):Bd 100000 (zi m x):=by
 have h8:=hL.len8;rw[<-zaa hL.all x hxl,zhY];have h1:=zhX (m:=m) (n:=m.length) (k:=199) (x:=x) (by omega) hL.bd (fun i=>(zbx hxb i).mono (by omega));exact(J5 (k:=64+(2*199+m.length)) (n:=m.length) (fun i _=>(zbx hxb i).mul (h1 i)) m.length Zr).mono (by omega)
set_option maxRecDepth 20000 in
theorem zpk{w1:World}{SB DB:Option Addr}{sc dc:Nat}(hF':FrV w0 m SB DB)(hL:LLLed m)(h1:m.length=n)(hX:Ints w1 XA 2 .i64 x)(hxl:x.length=n)(hxb:∀a∈x,-9223372036854775808<=a/\a<=9223372036854775807)[hx:Ext w0 w][hy:Ext w1 w]:
  Cq 76 #[.agg #[.int .i64 n,.slice SB n sc,.slice DB (n+1) dc],.slice XA n xc] w (js w (fun p q=>p=zi m x/\q=1)):=by
 have h8:=hL.len8;have h3:=hL.len1;have hF:=hF'.ext hx;have hms:((List.range m.length).map (ql m))[0]? =some (ql m 0):=by rw[List.getElem?_map,List.getElem?_range (by omega)];rfl
 obtain⟨bs,os,BM,cM,rfl,g1,hM,-,-,g2⟩:=hF.1.at_ hms;rw[zpi hL.all]at g1 hM;obtain⟨bd,od,gD,BD,kD,dD,rfl,d1,d2,hzD,d3⟩:=hF.2.atD (i:=0) (by simp);simp only[List.getD_cons_zero]at hzD;rw[h1]at g1;simp only[Nat.add_zero,Nat.zero_mul]at g1 d1 d2;have zsD:AllLen m n:=by rw[<-h1];exact hL.all
 have HCO:Hid (∀W,Ext w1 W->Cq 82 #[.slice XA n xc] W (zcy W x)):=Zh (fun W e=>by
  have:=zhW (w:=W) (c:=xc) hX (by omega) hxb;rwa [hxl]at this)
 have hnv:(zj n fun i=>x.getD i 0*(qB m n x).getD i 0)=zi m x:=by
  rw[<-zaa hL.all x (by omega),zhY,h1]
 have HVA:Hid (∀(W1 W:World)(A1:Option Addr)(c1:Nat),IntsV W1 A1 x->Ext W1 W->Ext w W->Cq 132 #[.slice BM n cM,.slice A1 n c1] W (zz W (zi m x))):=Zh (fun W1 W A1 c1 i1 e1 e2=>by
  rw[<-hnv];exact zo3 (k:=199) (hM.ext e2) i1 h1 (by omega) (by omega) zsD hxl (by omega) hL.bd (fun i=>(zbx hxb i).mono (by omega)))
 have hnb:=zpj hL (x:=x) (by omega) hxb;have HQU:Hid (∀(W1 W:World)g B k d,IntV W1 g B k d (zi m x)->Ext W1 W->Ext w W->Cq 131 #[.agg #[.bool g,.slice B k d],.agg #[.bool gD,.slice BD kD dD]] W (js W (RatOf (zi m x) 1))):=Zh (fun W1 W g B k d hz e1 e2=>zhA hz (hzD.ext e2) (kk:=100000) (by omega) hnb (Bd.one (by omega)) (by omega));have HXL:=Zh hxl;have hn0:((n:Int)==0)=false:=by simp;omega
 have hn8:n<=8:=by omega
 have hn1:0<n:=by omega
 unfold js at HQU|-
 generalize zi m x=nv at*
 clear hF hF' hms hM hL h1 hX hxl hxb zsD hnv hnb hzD h8 h3;have oa:Old bs w:=⟨g2⟩;have ob:Old bd w:=⟨d3⟩;go_enter Tryz.func76,Tryz.ntmps76;go_wp2_with fail
 have HKP:Hid (∀W,Ext (w.alloc (.cells #[.int .i64 n,.slice (some ⟨bs,os,none⟩) n sc,.slice (some ⟨bd,od,none⟩) (n+1) dc] 88)) W->W.cell? ⟨w.heap.size,1,none⟩=some (.slice (some ⟨bs,os,none⟩) n sc)/\W.cell? ⟨w.heap.size,2,none⟩=some (.slice (some ⟨bd,od,none⟩) (n+1) dc)/\W.cell? ⟨bs,os,none⟩=some (.slice BM n cM)/\W.cell? ⟨bd,od,none⟩=some (.bool gD)/\W.cell? ⟨bd,od+1,none⟩=some (.slice BD kD dD)):=Zh (fun W e=>by
  have hb:=zk e (heap_alloc_new w _);obtain⟨⟨-,f1,f2⟩,-,-⟩:=Jd hb;have e2:Ext w W:=Ext.trans Zi e;exact⟨f1,f2,(zh w).trans g1,(zh w).trans d1,(zh w).trans d2⟩)
 go_region_held3 (fun w'=>w'.cell? ⟨w.heap.size,1,none⟩=some (.slice (some ⟨bs,os,none⟩) n sc)/\w'.cell? ⟨w.heap.size,2,none⟩=some (.slice (some ⟨bd,od,none⟩) (n+1) dc)/\w'.cell? ⟨bs,os,none⟩=some (.slice BM n cM)/\w'.cell? ⟨bd,od,none⟩=some (.bool gD)/\w'.cell? ⟨bd,od+1,none⟩=some (.slice BD kD dD))
  (exact HKP.out _ Zi)
  (first
   |(go_at_call 82;refine(HCO.out _ Zi).mono ?_;rintro e w3 ⟨A3,c3,rfl,hI3,-,-,hs3⟩;rw[HXL.out])
   |(go_at_call 132;refine(HVA.out _ _ _ _ hI3 Zi Zi).mono ?_;rintro e w4 ⟨g4,B4,k4,d4,rfl,hz4,hs4⟩)
   |(go_at_call 131;refine(HQU.out _ _ _ _ _ _ hz4 Zi Zi).mono ?_;rintro e w5 ⟨g6,B6,k6,d6,g7,B7,k7,d7,p,q,rfl,hz6,hz7,hPQ,hs5⟩;have hbk:=(Zi:BlkAt (w.heap.size+1) #[.bool false,.slice none 0 0,.bool false,.slice none 0 0] 127 w5).eq;have HBK:=Zh hbk;obtain⟨⟨a0,a1,a2,a3⟩,⟨f0,f1,f2,f3⟩,a4⟩:=Q9 hbk;have tq:Typed (w.heap.size+1) 127 w5:=⟨_,_,hbk⟩;clear hbk))
 have hq1:q=1:=by
  have:=hPQ.pos;have:=hPQ.le2;omega
 have hp1:p=nv:=by
  have:=hPQ.eq;rw[hq1]at this;omega
 clear hPQ;go_wp2_with fail
 exact bodyPost_ret (v:= .agg #[.bool g6,.slice B6 k6 d6,.bool g7,.slice B7 k7 d7]) (by simp[results,Tryz.results76,go_sem,a0,a1,a2,a3]) rfl ⟨_,_,_,_,_,_,_,_,p,q,rfl,hz6.keeps,hz7.keeps,⟨hp1,hq1⟩,Step.of _ _⟩
def ItV(w:World)(vs:List Value)(its:List (Int×List Int)):Prop:=vs.length=its.length*2/\∀(i:Nat)(p:Int×List Int),its[i]? =some p->∃B c,vs[i*2]? =some (.int .i64 p.1)/\vs[i*2+1]? =some (.slice B p.2.length c)/\Ints w B 2 .i64 p.2/\p.2.length<=c/\c<=9223372036854775807
theorem ItV.map(h:ItV w vs its)(hk:∀{B:Option Addr}{l:List Int},Ints w B 2 .i64 l->Ints w' B 2 .i64 l):ItV w' vs its:=⟨h.1,fun i p hp=>by
 obtain⟨B,c,a1,a2,a3,a4⟩:=h.2 i p hp;exact⟨B,c,a1,a2,hk a3,a4⟩⟩
theorem ItV.ext(h:ItV w vs its)(hx:Ext w w'):ItV w' vs its:=h.map fun h=>h.ext hx
theorem ItV.nil(w:World):ItV w [] []:=⟨rfl,fun i p hp=>by simp at hp⟩
theorem ItV.snoc(h:ItV w vs its){B:Option Addr}(hI:Ints w B 2 .i64 x)(h1:x.length<=c)(h2:c<=9223372036854775807):ItV w (vs++[.int .i64 a,.slice B x.length c]) (its++[(a,x)]):=by
 refine⟨by simp[h.1];omega,fun i p hp=>?_⟩;rcases Zl i its.length with hlt|hge
 ·rw[getElem?_append_left hlt]at hp;obtain⟨B',c',a1,a2,a3⟩:=h.2 i p hp;have hl:=h.1;exact⟨B',c',by rw[getElem?_append_left (by omega)];exact a1,by rw[getElem?_append_left (by omega)];exact a2,a3⟩
 ·have hi:i=its.length:=by
   have:=(Zg.1 hp).1;simp at this;omega
  subst hi;rw[getElem?_append_right Zr,Nat.sub_self]at hp;simp only[List.getElem?_cons_zero]at hp;injection hp with hp
  subst hp;have hl:=h.1;exact⟨B,c,by rw[getElem?_append_right (by omega),hl,Nat.sub_self];rfl,by rw[getElem?_append_right (by omega),hl,Nat.add_sub_cancel_left];rfl,hI,h1,h2⟩
end
section
open Go.RowKit
open La
theorem QO:(Tryz.prog.info? 47).map (fun i=>(i.zero,i.size,i.bytes))=some (some (.agg #[.int .i64 0,.slice none 0 0]),2,32):=by kernel_rfl
theorem Grow.stepI{w2:World}(h:Grow zf e w w')(h':Grow zf e w' w2):Grow zf e w w2:=⟨h.below.trans h'.below,fun k hk hne=>by
 have e1:=h.typed k hk hne;exact(h'.typed k (Nat.lt_of_lt_of_le hk h.below.size) (fun cs fr hh=>hne cs fr (by rw[<-e1];exact hh))).trans e1⟩
theorem zpl(g:Bool)(B:Option Addr)(k d:Nat)(g':Bool)(B':Option Addr)(k' d':Nat)(w:World):(Instr.field 127 (.agg #[.bool g,.slice B k d,.bool g',.slice B' k' d']) 0).run Tryz.prog w= .ok (.agg #[.bool g,.slice B k d]) w:=by
 obtain⟨i,h1,h2,h3,h4⟩:=info_parts ji;simp[Instr.field,run_underlying Tryz.underlying127,asAgg,part,sizeOf,typeInfo,go_sem,h1,h3]
attribute [local go_sem] zpl
def lvN(m:List (List Int))(b:Int):Nat->List Int->List (List Int)
 |0,t=>[t]
 |k+1,t=>Zn m b k t
def Qa(m:List (List Int))(b:Int)(k:Nat)(t:List Int)(q:Nat):List (List Int):=(List.range q).flatMap fun(j:Nat)=>lvN m b k ((zJ m b k t+(j:Int))::t)
theorem zpm(m:List (List Int))(b:Int)(k:Nat)(t:List Int):Zn m b k t=Qa m b k t (qc m b k t):=by
 cases k with
 |zero=>
  unfold Qa lvN;rw[Zn];induction List.range (qc m b 0 t) with
  |nil=>rfl
  |cons a l ih=>rw[List.map_cons,List.flatMap_cons,ih];rfl
 |succ k=>rfl
theorem zik(m:List (List Int))(b:Int)(k:Nat)(t:List Int)(q:Nat):Qa m b k t (q+1)=Qa m b k t q++lvN m b k ((zJ m b k t+(q:Int))::t):=by
 unfold Qa;rw[List.range_succ,List.flatMap_append,List.flatMap_singleton]
theorem zpn(m:List (List Int))(b:Int)(k:Nat)(t:List Int){q:Nat}(h:p<=q):(Qa m b k t p).length<=(Qa m b k t q).length:=by
 induction q with
 |zero=>obtain rfl:p=0:=by omega
        exact Zr
 |succ q ih=>
  rcases Zl p (q+1) with h1|h1
  ·have:=ih (by omega);rw[zik,length_append];omega
  ·obtain rfl:p=q+1:=by omega
   exact Zr
def jU(m:List (List Int))(L:List (List Int)):List (Int×List Int):=L.map fun x=>(zi m x,x)
theorem zil(m:List (List Int))(L L':List (List Int)):jU m (L++L')=jU m L++jU m L':=List.map_append
def zcE(w:World)(zf len:Nat)(its:List (Int×List Int))(m L:List (List Int))(e:Ending)(w':World):Prop:=∃A c vs,e= .returned (.slice A (len+L.length) c)/\Own w' zf 47 2 A (len+L.length) c vs/\ItV w' vs (its++jU m L)/\Grow zf 47 w w'
set_option maxRecDepth 20000 in
theorem zpo(hL:LLLed m)(h1:m.length=n)(hb:0<=za)(hb1:za<1073741824)(k:Nat):
  ∀(w:World)(SB DB TA OA:Option Addr)(sc dc tc oc q len:Nat)(t:List Int)(vs:List Value)(its:List (Int×List Int)),n=k+q+1->FrV w m SB DB->Ints w TA 2 .i64 t->t.length=q->(∀a∈t,-9223372036854775808<=a/\a<=9223372036854775807)->0<=left (ent m) za (k+1) t->Own w zf 47 2 OA len oc vs->ItV w vs its->zf<=w.heap.size->len+(Zn m za k t).length<=4000000->
  Cq 45 #[.agg #[.int .i64 n,.slice SB n sc,.slice DB (n+1) dc],.int .i64 za,.slice TA q tc,.slice OA len oc] w (zcE w zf len its m (Zn m za k t)):=by
 induction k using Nat.strongRecOn with
 |ind k ih=>
  intro w SB DB TA OA sc dc tc oc q len t vs its hq hF hT htl htb h0 hO hV hbs hln;have IH:=Zh ih;clear ih;have hr:=Qi hL.red;have hn8:=hL.len8;have hkm:k<m.length:=by omega
  have htm:t.length=m.length-1-k:=by omega
  obtain⟨v1,v2,v3,v4,v5,v6⟩:=zeC hr hb hb1 hkm htm h0;have HIV:Hid (∀W,Ext w W->Cq 73 #[.agg #[.int .i64 n,.slice SB n sc,.slice DB (n+1) dc],.int .i64 za,.slice TA q tc] W (zF W (.tuple #[.int .i64 (zJ m za k t),.int .i64 (Zb m za k t)]))):=Zh (fun W e=>
   zii hF hL h1 hq hT htl htb (by omega) (by omega) h0 (by omega) (by omega) (by omega) (by omega))
  rw[zpm]at hln|-
  unfold zcE;obtain⟨J,hJ⟩:=Xz (qc m za k t);rw[<-hJ]at hln|-
  have hJ2:J=(Zb m za k t-zJ m za k t+1).toNat:=hJ;have HK1:Hid (∀i,i<J->0<=left (ent m) za k ((zJ m za k t+(i:Int))::t)):=Zh (fun i hi'=>Ja hr t hkm htm h0 (j:=i) (by rw[hJ]at hi';exact hi'));have HK2:Hid (∀i,i<=J->(Qa m za k t i).length<=(Qa m za k t J).length):=Zh (fun i hi'=>zpn m za k t hi');have HK4:=Zh (zik m za k t);obtain⟨lo,hlo⟩:=Xz (zJ m za k t);obtain⟨hi,hhi⟩:=Xz (Zb m za k t)
  rw[<-hlo]at v1 v2 v3 v4 HIV HK1 HK4 hJ2;rw[<-hhi]at v1 v2 v5 v6 HIV hJ2;have hhl:hi-lo+1=(J:Int):=by omega
  have zrG:Hid (∀i,i<J->∀a∈(lo+(i:Int))::t,-9223372036854775808<=a/\a<=9223372036854775807):=Zh (fun i hi' a ha=>by
   rcases List.mem_cons.1 ha with rfl|ha
   ·omega
   ·exact htb a ha)
  have HNB:Hid (k=0->∀i,i<J->-9223372036854775808<=zi m ((lo+(i:Int))::t)/\zi m ((lo+(i:Int))::t)<=9223372036854775807):=Zh (fun e i hi'=>by
   have h4:=HK1.out i hi';subst e;have hlx:((lo+(i:Int))::t).length=m.length:=by simp;omega
   rw[jP hL.all za _ hlx]at h4;have:=zbj hr _ hlx;omega)
  have HFV:=Zh hF;have HTV:=Zh hT;have HH1:=Zh h1;have HTL:=Zh htl;have HQ:=Zh hq;have HO:=Zh hO;have HV:=Zh hV;have hqn:q<n:=by omega
  have hn9:n<=8:=by omega
  clear hlo hhi h1 hkm hq htl hJ hF hT htb h0 hO hV hr htm hJ2;go_enter Tryz.func45,Tryz.ntmps45;go_upto_region 2 with (go_at_call 73;refine(HIV.out _ Zi).mono ?_;rintro e w1 ⟨rfl,hs1⟩)
  have hx1:Ext w w1:=Zi;have zwg:zf<=w1.heap.size:=Nat.le_trans hbs hx1.size;have hfb:w1.heap[w.heap.size]? =some (.cells #[.int .i64 n,.slice SB n sc,.slice DB (n+1) dc] 88 (0,0)):=zk (Zi:Ext (w.alloc (.cells #[.int .i64 n,.slice SB n sc,.slice DB (n+1) dc] 88)) w1) (heap_alloc_new w _);have HFW:Hid (∀W,Grow zf 47 w1 W->W.heap[w.heap.size]? =some (.cells #[.int .i64 n,.slice SB n sc,.slice DB (n+1) dc] 88 (0,0))):=Zh (fun W h=>h.heap hfb (by decide))
  have HG0:Hid (Grow zf 47 w w1):=Zh (Grow.of_ext hx1 hbs);clear hfb;go_wp2_with fail
  go_loopw [3,11] (fun s3 x wr=>∃(i:Nat) (A3:Option Addr) (c3:Nat) (vs3:List Value),i<=J/\x= .int .i64 (lo+(i:Int))/\s3= .slice A3 (len+(Qa m za k t i).length) c3/\Hid (Own wr zf 47 2 A3 (len+(Qa m za k t i).length) c3 vs3)/\Hid (ItV wr vs3 (its++jU m (Qa m za k t i)))/\Hid (Grow zf 47 w1 wr)) (fun _ x _=>(hi-intOf x+1).toNat)
  case atStart=>exact⟨0,OA,oc,vs,by omega,by simp,rfl,Zh (HO.out.ext hx1),Zh (by have:=HV.out.ext hx1;simpa[Qa,jU] using this),Zh (Grow.of_ext (Ext.refl _) zwg)⟩
  case round=>
   obtain⟨i,A3,c3,vs3,hi',rfl,rfl,HOI,HVI,HGI⟩:=hrel;have hfr:=HFW.out wr HGI.out;obtain⟨⟨f0,f1,f2⟩,-,f3⟩:=Jd hfr;have oW:Old w.heap.size wr:=⟨f3⟩;have zuM:zf<=wr.heap.size:=Nat.le_trans zwg HGI.out.below.size;by_cases hlt:i<J
   ·have hG:=HG0.out.stepI HGI.out;have hF:=HFV.out.oth (Oth.of_grow hG) (by decide) (by decide) (by decide) (by decide);have hT:=HTV.out.oth (Oth.of_grow hG) (by decide);have hk4:=HK4.out i;have hk2:=HK2.out (i+1) (by omega);rw[hk4,length_append]at hk2;have hle:lo+(i:Int)<=hi:=by omega
    have HLG:Hid (∀W,Ext wr W->Cq 74 #[.int .i64 (lo+(i:Int)),.slice TA q tc] W (fun e w'=>∃A c,e= .returned (.slice A (q+1) c)/\Ints w' A 2 .i64 ((lo+(i:Int))::t)/\q+1<=c/\c<=9223372036854775807/\Step W w')):=Zh (fun W e=>by
     have:=zia (w:=W) (c:=tc) (lo+(i:Int)) hT (by rw[HTL.out];omega);rw[HTL.out]at this;refine this.mono ?_;rintro e w' ⟨A,c,rfl,a1,a2,a3,a4⟩;rw[length_cons,HTL.out]at a2;exact⟨A,c,by rw[length_cons,HTL.out],a1,a2,a3,a4⟩)
    have hw3:IntKind.i64.wrap (lo+(i:Int)+1)=lo+((i+1:Nat):Int):=by rw[IntKind.wrap_i64];omega
    have HEX:Hid (∀W,Ext wr W->W.cell? ⟨w.heap.size,0,none⟩=some (.int .i64 n)/\W.cell? ⟨w.heap.size,1,none⟩=some (.slice SB n sc)/\W.cell? ⟨w.heap.size,2,none⟩=some (.slice DB (n+1) dc)):=Zh (fun W e=>(Jd (zk e hfr)).1);rcases k with _|k
    ·have hqe:q+1=n:=by have:=HQ.out;omega
     have hb0:decide ((q:Int)+1<(n:Int))=false:=by simp;omega
     have HPA:Hid (∀(W1 W:World)(A:Option Addr)(c:Nat),Ints W1 A 2 .i64 ((lo+(i:Int))::t)->Ext W1 W->Ext wr W->Cq 76 #[.agg #[.int .i64 n,.slice SB n sc,.slice DB (n+1) dc],.slice A (q+1) c] W (js W (fun p q=>p=zi m ((lo+(i:Int))::t)/\q=1))):=Zh (fun W1 W A c i1 e1 e2=>by
      rw[hqe];exact zpk (hF.ext e2) hL HH1.out i1 (by rw[length_cons,HTL.out];exact hqe) (zrG.out i hlt))
     have hnb:=HNB.out rfl i hlt;have HLN:Hid (lvN m za 0 ((lo+(i:Int))::t)=[(lo+(i:Int))::t]):=Zh rfl;rw[HLN.out]at hk4 hk2;have HK4':=Zh hk4;have zrS:Hid (((lo+(i:Int))::t).length=q+1):=Zh (by rw[length_cons,HTL.out]);simp only[length_cons,List.length_nil]at hk2;obtain⟨t2,ht2⟩:∃t2,t2=(lo+(i:Int))::t:=⟨_,rfl⟩;rw[<-ht2]at HLG HPA hnb HK4' zrS;have HN2:Hid (jU m [t2]=[(zi m t2,t2)]):=Zh rfl
     unfold js at HPA;generalize zi m t2=nv at*
     clear hF hT hG hk4 ht2 hfr hqe;go_wp2_with (first
      |(go_at_call 74;refine(HLG.out _ Zi).mono ?_;rintro e w5 ⟨A5,c5,rfl,hI5,h51,h52,hs5⟩;obtain⟨x0,x1,x2⟩:=HEX.out w5 Zi;have zwh:Ext wr w5:=Zi)
      |(go_at_call 76;refine(HPA.out _ _ _ _ hI5 Zi Zi).mono ?_;rintro e w6 ⟨g6,B6,k6,d6,g7,B7,k7,d7,p,qq,rfl,hz6,hz7,⟨rfl,-⟩,hs6⟩)
      |(go_at_call 75;refine(zb0 hz6 hnb.1 hnb.2).mono ?_;rintro e w7 ⟨rfl,hs7⟩;have hI7:=hI5.ext (Zi:Ext w5 w7);have hx7:Ext wr w7:=Zi;have zyO:zf<=w7.heap.size:=Nat.le_trans zuM hx7.size)
      |(at_builtin;go_loud (refine zM _ rfl _ _ 42 rfl zf 47 (.agg #[.int .i64 0,.slice none 0 0]) 2 32 Tryz.underlying42 QO rfl (by omega) (by omega) A3 (len+(Qa m za 0 t i).length) c3 vs3 rfl (HOI.out.ext Zi) (some ⟨w7.heap.size,0,none⟩) 1 1 [.int .i64 p,.slice A5 (q+1) c5] rfl (Arr.new w7 47 #[.int .i64 p,.slice A5 (q+1) c5]) (by simp) (by simp[Value.oneCell']) (by omega) (by simp;omega) ?_);intro A8 c8 w8 zsA hg;have HO8:=Zh zsA;have HG8:=Zh hg;clear zsA hg))
     refine⟨⟨i+1,A8,c8,vs3++[.int .i64 p,.slice A5 (q+1) c5],by omega,by first|rfl|(congr 1;omega),?_,Zh ?_,Zh ?_,Zh (HGI.out.stepI ((Grow.of_ext (Zi:Ext wr (w7.alloc (.cells #[.int .i64 p,.slice A5 (q+1) c5] 47))) zuM).stepI HG8.out))⟩,by simp[intOf]<;>omega⟩
     ·rw[HK4'.out];simp only[length_append,length_cons,List.length_nil];rfl
     ·rw[HK4'.out,length_append,List.length_singleton,<-Nat.add_assoc];exact HO8.out
     ·rw[HK4'.out,zil,HN2.out,<-List.append_assoc];rw[<-zrS.out];exact(ItV.snoc (HVI.out.ext (Zi:Ext wr w7)) (hI7) (by rw[zrS.out];exact h51) h52).map fun h=>(h.ext (Zi:Ext w7 (w7.alloc (.cells #[.int .i64 p,.slice A5 (q+1) c5] 47)))).oth (Oth.of_grow HG8.out) (by decide)
    ·have hq1:q+1<n:=by have:=HQ.out;omega
     have hb0:decide ((q:Int)+1<(n:Int))=true:=by simp;omega
     have HLN:Hid (lvN m za (k+1) ((lo+(i:Int))::t)=Zn m za k ((lo+(i:Int))::t)):=Zh rfl;rw[HLN.out]at hk4 hk2;have HCN:Hid (∀(W:World)(A:Option Addr)(c:Nat),Ints W A 2 .i64 ((lo+(i:Int))::t)->Ext wr W->Cq 45 #[.agg #[.int .i64 n,.slice SB n sc,.slice DB (n+1) dc],.int .i64 za,.slice A (q+1) c,.slice A3 (len+(Qa m za (k+1) t i).length) c3] W (zcE W zf (len+(Qa m za (k+1) t i).length) (its++jU m (Qa m za (k+1) t i)) m (Zn m za k ((lo+(i:Int))::t)))):=Zh (fun W A c hI e=>
      IH.out k (by omega) W SB DB A A3 sc dc c c3 (q+1) _ _ vs3 _ (by have:=HQ.out;omega) (hF.ext e) hI (by rw[length_cons,HTL.out]) (zrG.out i hlt) (HK1.out i hlt) (HOI.out.ext e) (HVI.out.ext e) (Nat.le_trans zuM e.size) (by omega))
     have HK4':=Zh hk4;unfold zcE at HCN;obtain⟨t2,ht2⟩:∃t2,t2=(lo+(i:Int))::t:=⟨_,rfl⟩;rw[<-ht2]at HLG HCN HK4';clear hF hT hG hk4 hk2 ht2 hfr HLN;generalize Zn m za k t2=L2 at*
     go_wp2_with (first
      |(go_at_call 74;refine(HLG.out _ Zi).mono ?_;rintro e w5 ⟨A5,c5,rfl,hI5,h51,h52,hs5⟩;obtain⟨x0,x1,x2⟩:=HEX.out w5 Zi;have zwh:Ext wr w5:=Zi)
      |(go_at_call 45;refine(HCN.out _ _ _ hI5 Zi).mono ?_;rintro e w6 ⟨A6,c6,vs6,rfl,hO6,hV6,hG6⟩;have HO6:=Zh hO6;have HV6:=Zh hV6;have HG6:=Zh ((Grow.of_ext zwh zuM).stepI hG6);clear hO6 hV6 hG6))
     refine⟨⟨i+1,A6,c6,vs6,by omega,by first|rfl|(congr 1;omega),?_,Zh ?_,Zh ?_,Zh (HGI.out.stepI HG6.out)⟩,by simp[intOf]<;>omega⟩
     ·rw[HK4'.out,length_append,<-Nat.add_assoc]
     ·rw[HK4'.out,length_append,<-Nat.add_assoc];exact HO6.out
     ·rw[HK4'.out,zil,<-List.append_assoc];exact HV6.out
   ·obtain rfl:i=J:=by omega
    have ztc:decide (lo+(i:Int)<=hi)=false:=by simp;omega
    go_wp2_with fail
    go_ret;exact⟨A3,c3,vs3,rfl,HOI.out,HVI.out,HG0.out.stepI HGI.out⟩
end
section
open Go.RowKit
open La
theorem Arr.take(h:Arr w A e vs)(k:Nat):Arr w A e (vs.take k):=fun h0=>by
 obtain⟨b,o,cs,fr,hA,hb,hc⟩:=h (by rw[length_take]at h0;omega);refine⟨b,o,cs,fr,hA,hb,fun j u hu=>?_⟩;rw[getElem?_take]at hu;split at hu
 ·exact hc _ _ hu
 ·cases hu
theorem ItV.one(h:ItV w vs its):∀u∈vs,u.oneCell'=true:=fun u hu=>by
 obtain⟨j,hj⟩:=List.getElem?_of_mem hu;have hjl:=(Zg.1 hj).1;have hl:=h.1;have hi:j / 2<its.length:=by omega
 obtain⟨B,c,a1,a2,-⟩:=h.2 (j / 2) its[j / 2] (Ze hi);rcases Nat.mod_two_eq_zero_or_one j with e|e
 ·rw[show j / 2*2=j by omega,hj]at a1;injection a1 with a1
  rw[a1];rfl
 ·rw[show j / 2*2+1=j by omega,hj]at a2;injection a2 with a2
  rw[a2];rfl
theorem ItV.take(h:ItV w vs its)(k:Nat):ItV w (vs.take (k*2)) (its.take k):=by
 refine⟨by rw[length_take,length_take,h.1];omega,fun i p hp=>?_⟩;rw[getElem?_take]at hp;split at hp
 ·rename_i hi
  obtain⟨B,c,a1,a2,a3⟩:=h.2 i p hp;exact⟨B,c,by rw[getElem?_take,if_pos (by omega)];exact a1,by rw[getElem?_take,if_pos (by omega)];exact a2,a3⟩
 ·cases hp
theorem ItV.drop(h:ItV w vs its)(k:Nat):ItV w (vs.drop (k*2)) (its.drop k):=by
 refine⟨by rw[length_drop,length_drop,h.1];omega,fun i p hp=>?_⟩;rw[List.getElem?_drop]at hp;obtain⟨B,c,a1,a2,a3⟩:=h.2 _ p hp;exact⟨B,c,by rw[List.getElem?_drop,show k*2+i*2=(k+i)*2 by omega];exact a1,by rw[List.getElem?_drop,show k*2+(i*2+1)=(k+i)*2+1 by omega];exact a2,a3⟩
theorem ItV.append{vs':List Value}{its':List (Int×List Int)}(h:ItV w vs its)(h':ItV w vs' its'):ItV w (vs++vs') (its++its'):=by
 refine⟨by simp[h.1,h'.1];omega,fun i p hp=>?_⟩;have hl:=h.1;rcases Zl i its.length with hlt|hge
 ·rw[getElem?_append_left hlt]at hp;obtain⟨B,c,a1,a2,a3⟩:=h.2 i p hp;exact⟨B,c,by rw[getElem?_append_left (by omega)];exact a1,by rw[getElem?_append_left (by omega)];exact a2,a3⟩
 ·rw[getElem?_append_right hge]at hp;obtain⟨B,c,a1,a2,a3⟩:=h'.2 _ p hp;exact⟨B,c,by rw[getElem?_append_right (by omega),show i*2-vs.length=(i-its.length)*2 by omega];exact a1,by rw[getElem?_append_right (by omega),show i*2+1-vs.length=(i-its.length)*2+1 by omega];exact a2,a3⟩
theorem zpp{x:Int×List Int}(h:qd l x=l.length):Zj l x=l.take (qd l x)++x::l.drop (qd l x):=by
 unfold Zj;rw[h];simp
theorem zpq{x y:Int×List Int}(h:l[qd l x]? =some y)(hl:Zo x y=true):Zj l x=l.take (qd l x)++x::l.drop (qd l x):=by
 unfold Zj;rw[h];simp[hl]
theorem zpr{x y:Int×List Int}(h:l[qd l x]? =some y)(hl:Zo x y=false):Zj l x=l:=by
 unfold Zj;rw[h];simp[hl]
def zcF(w:World)(zf:Nat)(its:List (Int×List Int))(e:Ending)(w':World):Prop:=∃A c vs,e= .returned (.slice A its.length c)/\Own w' zf 47 2 A its.length c vs/\ItV w' vs its/\Ext w w'
set_option maxRecDepth 20000 in
theorem zps{len lc:Nat}{LA:Option Addr}(hO:Own w zf 47 2 LA len lc vs)(hV:ItV w vs its)(hbs:zf<=w.heap.size)(hl:its.length<=1000000)(hX:Ints w XA 2 .i64 x)(hxc:x.length<=xc)(zuN:xc<=9223372036854775807)(hx8:x.length<=1000)(hr8:∀p∈its,p.2.length<=1000):
  Cq 48 #[.slice LA len lc,.agg #[.int .i64 a,.slice XA x.length xc]] w (zcF w zf (Zj its (a,x))):=by
 have zsB:its.length=len:=by have:=hO.len;have:=hV.1;omega
 have zsK:=hO.cap;have zuO:=hO.arr;have hE:∀k p,its[k]? =some p->∃b o B c,LA=some ⟨b,o,none⟩/\w.cell? ⟨b,o+k*2,none⟩=some (.int .i64 p.1)/\w.cell? ⟨b,o+k*2+1,none⟩=some (.slice B p.2.length c)/\Ints w B 2 .i64 p.2/\b<w.heap.size:=fun k p hp=>by
  obtain⟨B,c,a1,a2,a3,-⟩:=hV.2 k p hp;obtain⟨b,o,hA,h1,h2⟩:=zuO.at_ a1;obtain⟨b',o',hA',h1',-⟩:=zuO.at_ a2;rw[hA]at hA';injection hA' with hA'
  injection hA' with z1 z2
  subst z1 z2;exact⟨b,o,B,c,hA,h1,by rw[Nat.add_assoc];exact h1',a3,h2⟩
 have HE:=Zh hE;have HV:=Zh hV;have HO:=Zh hO;have HAR:=Zh zuO;have HX:=Zh hX;have HR8:=Zh hr8;have HLN:=Zh zsB;obtain⟨xl,hxl⟩:=Xz x.length;have HXL:=Zh hxl;rw[<-hxl]at hxc hx8|-
 rw[zsB]at hl;clear hE hV hO zuO hX hr8 zsB hxl;unfold zcF;have hxb:Ext w (w.alloc (.cells #[.int .i64 a,.slice XA xl xc] 47)):=Zi;go_enter Tryz.func48,Tryz.ntmps48;go_wp2_with fail
 go_loopw [5] (fun i wr=>∃k:Nat,k<=len/\i= .int .i64 k/\Hid (∀j y,j<k->its[j]? =some y->Zo y (a,x)=true)/\Ext (w.alloc (.cells #[.int .i64 a,.slice XA xl xc] 47)) wr) (fun i _=>len-(intOf i).toNat)
 case atStart=>exact⟨0,by omega,rfl,Zh (fun j y hj=>absurd hj (by omega)),Zi⟩
 case round=>
  obtain⟨k,hk,rfl,HP,hxr⟩:=hrel;have zsW:Ext w wr:=hxb.trans hxr;have HKX:Hid (∀W,Ext wr W->W.cell? ⟨w.heap.size,0,none⟩=some (.int .i64 a)/\W.cell? ⟨w.heap.size,1,none⟩=some (.slice XA xl xc)):=Zh (fun W e=>by
   obtain⟨p1,p2,-⟩:=zR (zk (hxr.trans e) (heap_alloc_new w _));exact⟨p1,p2⟩)
  by_cases hlt:k<len
  ·obtain⟨y,hy⟩:∃y,its[k]? =some y:=⟨_,Ze (by rw[HLN.out];exact hlt)⟩;obtain⟨b,o,B,c,rfl,z1,z2,hI,z3⟩:=HE.out k y hy;have hy8:=HR8.out y (Zm hy);have oB:Old b w:=⟨z3⟩;have HZ:=Zh (And.intro z1 z2);obtain⟨ya,yx⟩:=y;simp only at z1 z2 hI hy8;have hkd:decide ((k:Int)<(len:Int))=true:=by simp;omega
   have HLE:Hid (∀W,Ext w W->Cq 78 #[.agg #[.int .i64 ya,.slice B yx.length c],.agg #[.int .i64 a,.slice XA xl xc]] W (zF W (.bool (Zo (ya,yx) (a,x))))):=Zh (fun W e=>by
    rw[HXL.out];exact zhZ hI HX.out (by omega) (by rw[<-HXL.out];omega))
   have HHD:Hid (∀W,Ext wr W->W.cell? ⟨w.heap.size,0,none⟩=some (.int .i64 a)/\W.cell? ⟨w.heap.size,1,none⟩=some (.slice XA xl xc)/\W.cell? ⟨b,o+k*2,none⟩=some (.int .i64 ya)/\W.cell? ⟨b,o+k*2+1,none⟩=some (.slice B yx.length c)):=Zh (fun W e=>⟨(HKX.out W e).1,(HKX.out W e).2,(zh w (hx:=zsW.trans e)).trans HZ.out.1,(zh w (hx:=zsW.trans e)).trans HZ.out.2⟩)
   cases zuP:Zo (ya,yx) (a,x) with
   |true=>
    have HPN:Hid (∀j y,j<k+1->its[j]? =some y->Zo y (a,x)=true):=Zh (fun j y hj hjy=>by
     rcases Zl j k with h|h
     ·exact HP.out j y h hjy
     ·obtain rfl:j=k:=by omega
      rw[hy]at hjy;injection hjy with hjy
      rw[<-hjy];exact zuP)
    rw[zuP]at HLE;clear z1 z2 hI hy;go_wp2_with fail
    go_region_held3 (fun w'=>w'.cell? ⟨w.heap.size,0,none⟩=some (.int .i64 a)/\w'.cell? ⟨w.heap.size,1,none⟩=some (.slice XA xl xc)/\w'.cell? ⟨b,o+k*2,none⟩=some (.int .i64 ya)/\w'.cell? ⟨b,o+k*2+1,none⟩=some (.slice B yx.length c))
     (exact HHD.out _ Zi)
     ((go_at_call 78;refine(HLE.out _ Zi).mono ?_;rintro e w5 ⟨rfl,hs5⟩))
    all_goals
     go_wp2_with fail
     exact⟨⟨k+1,by omega,by go_num,HPN,hxr.trans Zi⟩,by simp[intOf]<;>omega⟩
   |false=>
    have hpi:=zes its (a,x) k HP.out (by rw[HLN.out];omega) (fun y' hy'=>by rw[hy]at hy';injection hy' with hy';rw[<-hy'];exact zuP);have HPI:=Zh hpi;have HY:=Zh hy;have HII:=Zh hI;rw[zuP]at HLE;clear z1 z2 hI hpi hy;go_wp2_with fail
    go_region_held3 (fun w'=>w'.cell? ⟨w.heap.size,0,none⟩=some (.int .i64 a)/\w'.cell? ⟨w.heap.size,1,none⟩=some (.slice XA xl xc)/\w'.cell? ⟨b,o+k*2,none⟩=some (.int .i64 ya)/\w'.cell? ⟨b,o+k*2+1,none⟩=some (.slice B yx.length c))
     (exact HHD.out _ Zi)
     ((go_at_call 78;refine(HLE.out _ Zi).mono ?_;rintro e w5 ⟨rfl,hs5⟩))
    have hx5:Ext wr w5:=Zi;have ztC:Ext w w5:=zsW.trans hx5;have zrH:Hid (∀W,Ext w W->Cq 78 #[.agg #[.int .i64 a,.slice XA xl xc],.agg #[.int .i64 ya,.slice B yx.length c]] W (zF W (.bool (Zo (a,x) (ya,yx))))):=Zh (fun W e=>by
     rw[HXL.out];exact zhZ HX.out HII.out (by rw[<-HXL.out];omega) (by omega))
    cases hl2:Zo (a,x) (ya,yx) with
    |false=>
     have HPU:Hid (Zj its (a,x)=its):=Zh (zpr (y:=(ya,yx)) (by rw[HPI.out];exact HY.out) hl2);rw[hl2]at zrH;go_wp2_with fail
     go_region_held3 (fun w'=>w'.cell? ⟨w.heap.size,0,none⟩=some (.int .i64 a)/\w'.cell? ⟨w.heap.size,1,none⟩=some (.slice XA xl xc)/\w'.cell? ⟨b,o+k*2,none⟩=some (.int .i64 ya)/\w'.cell? ⟨b,o+k*2+1,none⟩=some (.slice B yx.length c))
      (exact HHD.out _ (hx5.trans Zi))
      ((go_at_call 78;refine(zrH.out _ Zi).mono ?_;rintro e w6 ⟨rfl,hs6⟩))
     have hx6:Ext w w6:=ztC.trans Zi;go_wp2_with fail
     go_ret;rw[HPU.out,HLN.out];exact⟨_,lc,vs,rfl,HO.out.ext (hx6.trans Zi),HV.out.ext (hx6.trans Zi),hx6.trans Zi⟩
    |true=>
     have HPU:Hid (Zj its (a,x)=its.take k++((a,x)::its.drop k)):=Zh (by
      have h:=zpq (l:=its) (x:=(a,x)) (y:=(ya,yx)) (by rw[HPI.out];exact HY.out) hl2;rwa [HPI.out]at h)
     rw[hl2]at zrH;go_wp2_with fail
     go_region_held3 (fun w'=>w'.cell? ⟨w.heap.size,0,none⟩=some (.int .i64 a)/\w'.cell? ⟨w.heap.size,1,none⟩=some (.slice XA xl xc)/\w'.cell? ⟨b,o+k*2,none⟩=some (.int .i64 ya)/\w'.cell? ⟨b,o+k*2+1,none⟩=some (.slice B yx.length c))
      (exact HHD.out _ (hx5.trans Zi))
      ((go_at_call 78;refine(zrH.out _ Zi).mono ?_;rintro e w6 ⟨rfl,hs6⟩))
     have hx6:Ext w w6:=ztC.trans Zi;have zt0:Ext wr w6:=hx5.trans Zi;have hvt:(vs.take (k*2)).length=k*2:=by rw[length_take];have:=HO.out.len;omega
     have hvd:(vs.drop (k*2)).length=(len-k)*2:=by rw[length_drop];have:=HO.out.len;omega
     have hck:lc≠k:=by omega
     have zyP:w.heap.size<=w6.heap.size:=hx6.size;have HVT:=Zh (And.intro hvt hvd);have HON:=Zh HV.out.one;clear hvt hvd;go_wp2_with (first
      |(have hh:=HO8;clear hh;at_builtin;go_loud (refine zM _ rfl _ _ 42 rfl w6.heap.size 47 (.agg #[.int .i64 0,.slice none 0 0]) 2 32 Tryz.underlying42 QO rfl (by omega) (by omega) A8 (k+1) c8 _ rfl HO8.out _ (len-k) (lc-k) (vs.drop (k*2)) rfl ((HAR.out.drop (k*2)).ext (hx6.trans ztj)) HVT.out.2 (fun u hu=>HON.out u (List.mem_of_mem_drop hu)) (by omega) (by have:=ztj.size;omega) ?_);intro A9 c9 w9 zsA hg;have HO9:=Zh zsA;have hx9:Ext w6 w9:=hg.ext ztj Zr;clear zsA hg)
      |(have hh:=HO7;clear hh;at_builtin;go_loud (refine zM _ rfl _ _ 42 rfl w6.heap.size 47 (.agg #[.int .i64 0,.slice none 0 0]) 2 32 Tryz.underlying42 QO rfl (by omega) (by omega) A7 k c7 _ rfl (HO7.out.ext Zi) (some ⟨w7.heap.size,0,none⟩) 1 1 [.int .i64 a,.slice XA xl xc] rfl (Arr.new w7 47 #[.int .i64 a,.slice XA xl xc]) (by simp) (by simp[Value.oneCell']) (by omega) (by have:=zs7.size;simp;omega) ?_);intro A8 c8 w8 zsA hg;have HO8:=Zh zsA;have ztj:Ext w6 w8:=hg.ext (zs7.trans Zi) Zr;clear zsA hg)
      |(at_builtin;go_loud (refine zM _ rfl _ _ 42 rfl w6.heap.size 47 (.agg #[.int .i64 0,.slice none 0 0]) 2 32 Tryz.underlying42 QO rfl (by omega) (by omega) none 0 0 [] rfl (Own.nil _ _ _ _) _ k lc (vs.take (k*2)) rfl ((HAR.out.ext (hx6.trans Zi)).take (k*2)) HVT.out.1 (fun u hu=>HON.out u (List.mem_of_mem_take hu)) (by omega) (by simp) ?_);intro A7 c7 w7 zsA hg;rw[Nat.zero_add,nil_append]at zsA;rw[Nat.zero_add];have HO7:=Zh zsA;have zs7:Ext w6 w7:=hg.ext Zi (by simp);obtain⟨x0,x1⟩:=HKX.out w7 (zt0.trans zs7);clear zsA hg))
     have hpl:(Zj its (a,x)).length=k+1+(len-k):=by
      rw[HPU.out,length_append,length_cons,length_take,length_drop,HLN.out];omega
     have zto:Ext w w9:=hx6.trans hx9;have zs3:ItV w [.int .i64 a,.slice XA xl xc] [(a,x)]:=by
      have h:=ItV.snoc (a:=a) (ItV.nil w) HX.out (by rw[<-HXL.out];exact hxc) zuN;rw[<-HXL.out]at h;exact h
     have hit:ItV w (vs.take (k*2)++[.int .i64 a,.slice XA xl xc]++vs.drop (k*2)) (Zj its (a,x)):=by
      have h:=((HV.out.take k).append zs3).append (HV.out.drop k);rw[HPU.out];simpa[List.append_assoc] using h
     rw[<-hpl]at HO9|-
     go_ret;exact⟨A9,c9,_,rfl,(HO9.out.lower (Nat.le_trans hbs hx6.size)).ext Zi,hit.ext (zto.trans Zi),zto.trans Zi⟩
  ·obtain rfl:k=len:=by omega
   have hpi:=zes its (a,x) k HP.out (by rw[HLN.out];omega) (fun y' hy'=>by rw[List.getElem?_eq_none (by rw[HLN.out];omega)]at hy';cases hy');have HPU:Hid (Zj its (a,x)=its.take k++((a,x)::its.drop k)):=Zh (by
    have h:=zpp (l:=its) (x:=(a,x)) (by rw[hpi,HLN.out]);rwa [hpi]at h)
   have hkd:decide ((k:Int)<(k:Int))=false:=by simp
   clear hpi hlt hk;go_wp2_with fail
   go_quiet (fail)
   go_wp2_with fail
   go_quiet (fail)
   rename_i nq0 Ka ha Kb hb
   have zt0:Ext wr ((wr.drewN nq0).drewN nq):=Zi;have hx6:Ext w ((wr.drewN nq0).drewN nq):=zsW.trans zt0;generalize (wr.drewN nq0).drewN nq=w6 at*
   have zrC:Hid (Zj its (a,x)=its++[(a,x)]):=Zh (by
    rw[HPU.out,List.take_of_length_le (by rw[HLN.out];exact Zr),List.drop_eq_nil_of_le (by rw[HLN.out];exact Zr)])
   have HVL:Hid (vs.length=k*2):=Zh HO.out.len;have HON:=Zh HV.out.one;rcases HO.out.2 with ⟨hv,hn⟩|⟨g,cap,cur,hv,-⟩
   ·injection hv with h1 h2 h3
    subst h1 h2 h3;go_wp2_with (first
     |(have hh:=HO8;clear hh;at_builtin;go_loud (refine zM _ rfl _ _ 42 rfl w6.heap.size 47 (.agg #[.int .i64 0,.slice none 0 0]) 2 32 Tryz.underlying42 QO rfl (by omega) (by omega) A8 (0+1) c8 _ rfl HO8.out _ 0 _ [] rfl (Arr.nil (e:=47)) rfl (by simp) (by omega) (by have:=ztj.size;omega) ?_);intro A9 c9 w9 zsA hg;have HO9:=Zh zsA;have hx9:Ext w6 w9:=hg.ext ztj Zr;clear zsA hg)
     |(have hh:=HO7;clear hh;at_builtin;go_loud (refine zM _ rfl _ _ 42 rfl w6.heap.size 47 (.agg #[.int .i64 0,.slice none 0 0]) 2 32 Tryz.underlying42 QO rfl (by omega) (by omega) A7 0 c7 _ rfl (HO7.out.ext Zi) (some ⟨w7.heap.size,0,none⟩) 1 1 [.int .i64 a,.slice XA xl xc] rfl (Arr.new w7 47 #[.int .i64 a,.slice XA xl xc]) (by simp) (by simp[Value.oneCell']) (by omega) (by have:=zs7.size;simp;omega) ?_);intro A8 c8 w8 zsA hg;have HO8:=Zh zsA;have ztj:Ext w6 w8:=hg.ext (zs7.trans Zi) Zr;clear zsA hg)
     |(at_builtin;go_loud (refine zM _ rfl _ _ 42 rfl w6.heap.size 47 (.agg #[.int .i64 0,.slice none 0 0]) 2 32 Tryz.underlying42 QO rfl (by omega) (by omega) none 0 0 [] rfl (Own.nil _ _ _ _) _ 0 _ vs rfl (HO.out.arr.ext hx6) HVL.out (fun u hu=>HON.out u hu) (by omega) (by simp) ?_);intro A7 c7 w7 zsA hg;rw[Nat.zero_add,nil_append]at zsA;rw[Nat.zero_add];have HO7:=Zh zsA;have zs7:Ext w6 w7:=hg.ext Zi (by simp);obtain⟨x0,x1⟩:=HKX.out w7 (zt0.trans zs7);clear zsA hg))
    have zto:Ext w w9:=hx6.trans hx9;have zs3:ItV w [.int .i64 a,.slice XA xl xc] [(a,x)]:=by
     have h:=ItV.snoc (a:=a) (ItV.nil w) HX.out (by rw[<-HXL.out];exact hxc) zuN;rw[<-HXL.out]at h;exact h
    have hit:ItV w (vs++[.int .i64 a,.slice XA xl xc]++[]) (Zj its (a,x)):=by
     rw[append_nil,zrC.out];exact HV.out.append zs3
    have hpl:(Zj its (a,x)).length=0+1:=by rw[zrC.out,length_append,HLN.out];rfl
    have h9:=HO9.out;rw[Nat.add_zero]at h9;rw[hpl];go_ret;exact⟨A9,c9,rfl,_,(h9.lower (Nat.le_trans hbs hx6.size)).ext Zi,hit.ext (zto.trans Zi),zto.trans Zi⟩
   ·injection hv with h1 h2 h3
    subst h1 h3;by_cases hcc:lc=k
    ·subst hcc;go_wp2_with (first
      |(have hh:=HO8;clear hh;at_builtin;go_loud (refine zM _ rfl _ _ 42 rfl w6.heap.size 47 (.agg #[.int .i64 0,.slice none 0 0]) 2 32 Tryz.underlying42 QO rfl (by omega) (by omega) A8 (lc+1) c8 _ rfl HO8.out _ 0 _ [] rfl (Arr.nil (e:=47)) rfl (by simp) (by omega) (by have:=ztj.size;omega) ?_);intro A9 c9 w9 zsA hg;have HO9:=Zh zsA;have hx9:Ext w6 w9:=hg.ext ztj Zr;clear zsA hg)
      |(have hh:=HO7;clear hh;at_builtin;go_loud (refine zM _ rfl _ _ 42 rfl w6.heap.size 47 (.agg #[.int .i64 0,.slice none 0 0]) 2 32 Tryz.underlying42 QO rfl (by omega) (by omega) A7 lc c7 _ rfl (HO7.out.ext Zi) (some ⟨w7.heap.size,0,none⟩) 1 1 [.int .i64 a,.slice XA xl xc] rfl (Arr.new w7 47 #[.int .i64 a,.slice XA xl xc]) (by simp) (by simp[Value.oneCell']) (by omega) (by have:=zs7.size;simp;omega) ?_);intro A8 c8 w8 zsA hg;have HO8:=Zh zsA;have ztj:Ext w6 w8:=hg.ext (zs7.trans Zi) Zr;clear zsA hg)
      |(at_builtin;go_loud (refine zM _ rfl _ _ 42 rfl w6.heap.size 47 (.agg #[.int .i64 0,.slice none 0 0]) 2 32 Tryz.underlying42 QO rfl (by omega) (by omega) none 0 0 [] rfl (Own.nil _ _ _ _) _ lc _ vs rfl (HO.out.arr.ext hx6) HVL.out (fun u hu=>HON.out u hu) (by omega) (by simp) ?_);intro A7 c7 w7 zsA hg;rw[Nat.zero_add,nil_append]at zsA;rw[Nat.zero_add];have HO7:=Zh zsA;have zs7:Ext w6 w7:=hg.ext Zi (by simp);obtain⟨x0,x1⟩:=HKX.out w7 (zt0.trans zs7);clear zsA hg))
     have zto:Ext w w9:=hx6.trans hx9;have zs3:ItV w [.int .i64 a,.slice XA xl xc] [(a,x)]:=by
      have h:=ItV.snoc (a:=a) (ItV.nil w) HX.out (by rw[<-HXL.out];exact hxc) zuN;rw[<-HXL.out]at h;exact h
     have hit:ItV w (vs++[.int .i64 a,.slice XA xl xc]++[]) (Zj its (a,x)):=by
      rw[append_nil,zrC.out];exact HV.out.append zs3
     have hpl:(Zj its (a,x)).length=lc+1:=by rw[zrC.out,length_append,HLN.out];rfl
     have h9:=HO9.out;rw[Nat.add_zero]at h9;rw[hpl];go_ret;exact⟨A9,c9,rfl,_,(h9.lower (Nat.le_trans hbs hx6.size)).ext Zi,hit.ext (zto.trans Zi),zto.trans Zi⟩
    ·go_wp2_with (first
      |(have hh:=HO8;clear hh;at_builtin;go_loud (refine zM _ rfl _ _ 42 rfl w6.heap.size 47 (.agg #[.int .i64 0,.slice none 0 0]) 2 32 Tryz.underlying42 QO rfl (by omega) (by omega) A8 (k+1) c8 _ rfl HO8.out _ 0 _ [] rfl (Arr.nil (e:=47)) rfl (by simp) (by omega) (by have:=ztj.size;omega) ?_);intro A9 c9 w9 zsA hg;have HO9:=Zh zsA;have hx9:Ext w6 w9:=hg.ext ztj Zr;clear zsA hg)
      |(have hh:=HO7;clear hh;at_builtin;go_loud (refine zM _ rfl _ _ 42 rfl w6.heap.size 47 (.agg #[.int .i64 0,.slice none 0 0]) 2 32 Tryz.underlying42 QO rfl (by omega) (by omega) A7 k c7 _ rfl (HO7.out.ext Zi) (some ⟨w7.heap.size,0,none⟩) 1 1 [.int .i64 a,.slice XA xl xc] rfl (Arr.new w7 47 #[.int .i64 a,.slice XA xl xc]) (by simp) (by simp[Value.oneCell']) (by omega) (by have:=zs7.size;simp;omega) ?_);intro A8 c8 w8 zsA hg;have HO8:=Zh zsA;have ztj:Ext w6 w8:=hg.ext (zs7.trans Zi) Zr;clear zsA hg)
      |(at_builtin;go_loud (refine zM _ rfl _ _ 42 rfl w6.heap.size 47 (.agg #[.int .i64 0,.slice none 0 0]) 2 32 Tryz.underlying42 QO rfl (by omega) (by omega) none 0 0 [] rfl (Own.nil _ _ _ _) _ k _ vs rfl (HO.out.arr.ext hx6) HVL.out (fun u hu=>HON.out u hu) (by omega) (by simp) ?_);intro A7 c7 w7 zsA hg;rw[Nat.zero_add,nil_append]at zsA;rw[Nat.zero_add];have HO7:=Zh zsA;have zs7:Ext w6 w7:=hg.ext Zi (by simp);obtain⟨x0,x1⟩:=HKX.out w7 (zt0.trans zs7);clear zsA hg))
     have zto:Ext w w9:=hx6.trans hx9;have zs3:ItV w [.int .i64 a,.slice XA xl xc] [(a,x)]:=by
      have h:=ItV.snoc (a:=a) (ItV.nil w) HX.out (by rw[<-HXL.out];exact hxc) zuN;rw[<-HXL.out]at h;exact h
     have hit:ItV w (vs++[.int .i64 a,.slice XA xl xc]++[]) (Zj its (a,x)):=by
      rw[append_nil,zrC.out];exact HV.out.append zs3
     have hpl:(Zj its (a,x)).length=k+1:=by rw[zrC.out,length_append,HLN.out];rfl
     have h9:=HO9.out;rw[Nat.add_zero]at h9;rw[hpl];go_ret;exact⟨A9,c9,rfl,_,(h9.lower (Nat.le_trans hbs hx6.size)).ext Zi,hit.ext (zto.trans Zi),zto.trans Zi⟩
theorem zpt(hr:RedOK m){b:Int}(hb:0<=b)(hb1:b<1073741824)(k:Nat):∀t:List Int,k<m.length->t.length=m.length-1-k->0<=left (ent m) b (k+1) t->
  ((Zn m b k t).length:Int)=zU (ZY m b k t) (m.length-1):=by
 induction k with
 |zero=>
  intro t hk ht h0;obtain⟨v1,v2,-⟩:=zeC hr hb hb1 hk ht h0;rw[zez,Zn];simp only[zU,List.length_map,List.length_range];rw[if_pos (by omega)];unfold qc;omega
 |succ k ih=>
  intro t hk ht h0;have key:∀q:Nat,q<=qc m b (k+1) t->(((List.range q).flatMap fun(j:Nat)=>Zn m b k ((zJ m b (k+1) t+(j:Int))::t)).length:Int)=zU (ZF m b k t q) (m.length-1):=by
   intro q;induction q with
   |zero=>intro _;simp[ZF,zU]
   |succ q ihq=>
    intro hq;have a1:=ihq (by omega);have b1:=ih ((zJ m b (k+1) t+(q:Int))::t) (by omega) (by simp[ht];omega) (Ja hr t hk ht h0 (j:=q) (by unfold qc Zb zJ at hq;unfold Za;omega));rw[List.range_succ,List.flatMap_append,List.flatMap_singleton,zey,zdZ,length_append,Int.natCast_add];omega
  have k1:=key _ Zr;rw[zh3 hr hk b t ht,Zn];simp only[zU];rw[if_neg (by omega)];omega
theorem zim(zs2:ZI m=true){b:Nat}(hb1:(b:Int)<1073741824):((Zn m b (m.length-1) []).length:Int)<=Z4 m b:=by
 have hr:=Qi zs2;have hl:=Qo hr.small;have hst:=(zbk zs2 (b:=b) hb1).1;have h1:=zpt hr (b:=(b:Int)) (by omega) hb1 (m.length-1) [] (by omega) (by simp) (J3 hr (by omega));have h2:=zh8 hr (b:=(b:Int)) (by omega);have h3:(qz m b).getD (m.length-1) 0=zU (ZY m b (m.length-1) []) (m.length-1):=by
  rw[h2,zoW (by simp;omega)];simp[List.getD,show m.length-1<m.length by omega]
 have h4:=zby (cs:=qz m b) (fun x hx=>by have:=hst.one x hx;omega) (m.length-1);have h5:=hst.sum;omega
def zab(m:List (List Int))(l:List (Int×List Int))(x:List Int):List (Int×List Int):=if 0<zG x then Zj l (zi m x,x) else l
theorem zpu(m:List (List Int))(xs:List (List Int))(x:List Int):Zp m (xs++[x])=zab m (Zp m xs) x:=by
 unfold Zp zab;rw[List.foldl_append];rfl
theorem zpv(l:List (Int×List Int))(x:Int×List Int):(Zj l x).length<=l.length+1:=by
 unfold Zj;split
 ·split
  ·simp only[length_append,length_take,length_cons,length_drop];omega
  ·omega
 ·simp
theorem zpw(m:List (List Int))(xs:List (List Int)):∀l:List (Int×List Int),(xs.foldl (fun l x=>if 0<zG x then Zj l (zi m x,x) else l) l).length<=l.length+xs.length:=by
 induction xs with
 |nil=>intro l;exact Zr
 |cons x xs ih=>
  intro l;rw[List.foldl_cons,length_cons];refine Nat.le_trans (ih _) ?_;split
  ·have:=zpv l (zi m x,x);omega
  ·omega
theorem zeH(m:List (List Int))(xs:List (List Int)):(Zp m xs).length<=xs.length:=by
 have:=zpw m xs [];unfold Zp;simpa using this
theorem zpx{xs:List (List Int)}:∀p∈Zp m xs,p.2∈xs:=fun p hp=>by
 rcases((zhU m xs [] List.Pairwise.nil).2 p).1 hp with h|⟨x,hx,-,rfl⟩
 ·simp at h
 ·exact hx
theorem zin(h:zG x≠0):zH x=x↔0<zG x:=by
 constructor
 ·intro e;have:=zcg x h;rwa [e]at this
 ·exact zhR
def zcG(w:World)(its:List (Int×List Int))(e:Ending)(w':World):Prop:=∃A c vs,e= .returned (.slice A its.length c)/\Own w' w.heap.size 47 2 A its.length c vs/\ItV w' vs its/\Step w w'
def zeI(w w3:World)(m xs:List (List Int))(N:Nat)(s5 i:Value)(wr:World):Prop:=∃(k:Nat) (A5:Option Addr) (c5:Nat) (vs:List Value),k<=N/\i= .int .i64 k/\s5= .slice A5 (Zp m (xs.take k)).length c5/\Hid (Own wr w.heap.size 47 2 A5 (Zp m (xs.take k)).length c5 vs)/\Hid (ItV wr vs (Zp m (xs.take k)))/\Ext w3 wr
set_option maxRecDepth 20000 in
theorem zio(hM:MatA w0 A m)(hL:LLLed m)(h1:m.length=n)(hb:0<=za)(hb1:za<1073741824)(ztZ:((Zn m za (n-1) []).length)<=1000000)[hx:Ext w0 w]:
  Cq 22 #[.slice A n c,.int .i64 za] w (zcG w (Zp m (Zn m za (n-1) []))):=by
 have hr:=Qi hL.red;have hn8:=hL.len8;have hn1:=hL.len1;have HOF:Hid (∀W,Ext w0 W->Cq 44 #[.slice A n c] W (zeD W m n)):=Zh (fun W e=>zib hM hL h1);have zs9:=J3 hr hb;have zsD:=zhS hr hb;rw[h1]at zs9 zsD;obtain⟨xs,hxs⟩:=Xz (Zn m za (n-1) []);have HLV:Hid (∀(W:World)(SB DB:Option Addr)(sc dc:Nat),FrV W m SB DB->Cq 45 #[.agg #[.int .i64 n,.slice SB n sc,.slice DB (n+1) dc],.int .i64 za,.slice none 0 0,.slice none 0 0] W (fun e w'=>∃A c vs,e= .returned (.slice A xs.length c)/\Arr w' A 47 vs/\ItV w' vs (jU m xs)/\Ext W w')):=Zh (fun W SB DB sc dc hF=>by
  have:=zpo (zf:=W.heap.size) hL h1 hb hb1 (n-1) W SB DB none none sc dc 0 0 0 0 [] [] [] (by omega) hF Ints.nil rfl (fun a ha=>by simp at ha) zs9 (Own.nil _ _ _ _) (ItV.nil _) Zr (by omega);refine this.mono ?_;rintro e w' ⟨A,c,vs,rfl,hO,hV,hG⟩;rw[<-hxs,Nat.zero_add,nil_append] at*
  exact⟨A,c,vs,rfl,hO.arr,hV,hG.ext (Ext.refl _) Zr⟩)
 rw[<-hxs]at ztZ|-
 rw[<-hxs]at zsD;have HXS:Hid (∀x∈xs,x.length=n/\(∀a∈x,-1099511627776<=a/\a<=1099511627776)):=Zh (fun x hx=>by
  obtain⟨h2,h3⟩:=(zsD x).1 hx;refine⟨h2,fun a ha=>?_⟩;have h4:=zgX hr hb hb1 x (by omega) h3;obtain⟨i,hi⟩:=List.getElem?_of_mem ha;have:=JV x i a hi;omega)
 have HTK:Hid (∀(k:Nat)(x:List Int),xs[k]? =some x->Zp m (xs.take (k+1))=zab m (Zp m (xs.take k)) x):=Zh (fun k x hk=>by rw[List.take_add_one,hk];exact zpu m _ _);have HIL:Hid (∀k,(Zp m (xs.take k)).length<=1000000):=Zh (fun k=>by
  have h2:=zeH m (xs.take k);rw[length_take]at h2;omega)
 have HIM:Hid (∀k,∀p∈Zp m (xs.take k),p.2.length<=1000):=Zh (fun k p hp=>by
  have:=(HXS.out p.2 (List.mem_of_mem_take (zpx p hp))).1;omega)
 unfold zcG;have hn9:n<=8:=by omega
 clear hM hL hr zs9 zsD hxs h1;go_enter Tryz.func22,Tryz.ntmps22;go_wp2_with (first
  |(go_at_call 44;refine(HOF.out _ Zi).mono ?_;rintro e w2 ⟨SB,sc,DB,dc,rfl,hF,-,-,-,-,hs2⟩)
  |(go_at_call 45;refine(HLV.out _ _ _ _ _ hF).mono ?_;rintro e w3 ⟨A3,c3,vs3,rfl,hA3,hV3,hx3⟩;have HA3:=Zh hA3;have HV3:=Zh hV3;have zsY:Ext w w3:=(Zi:Ext w w2).trans hx3;clear hA3 hV3))
 obtain⟨N,hN⟩:=Xz xs.length;have HN:=Zh hN;have hN6:N<=1000000:=by omega
 rw[<-hN];clear hN ztZ;go_loopw [5,15] (fun s5 i wr=>zeI w w3 m xs N s5 i wr) (fun _ i _=>N-(intOf i).toNat)
 case atStart=>
  unfold zeI;exact⟨0,none,0,[],by omega,rfl,rfl,Zh (Own.nil _ _ _ _),Zh (ItV.nil _),Zi⟩
 case round=>
  unfold zeI at hrel;obtain⟨k,A5,c5,vs,hk,rfl,rfl,HO5,HV5,hxr⟩:=hrel;have zsW:Ext w wr:=zsY.trans hxr;by_cases hlt:k<N
  ·obtain⟨x,hxk⟩:∃x,xs[k]? =some x:=⟨_,Ze (by rw[<-HN.out];exact hlt)⟩;obtain⟨hxl,hxb⟩:=HXS.out x (Zm hxk);obtain⟨B,cx,a1,a2,a3,a4,a5⟩:=HV3.out.2 k (zi m x,x) (by unfold jU;rw[List.getElem?_map,hxk];rfl);obtain⟨b,o,rfl,z1,z3⟩:=HA3.out.at_ a1;obtain⟨b',o',hA',z2,-⟩:=HA3.out.at_ a2;injection hA' with hA'
   injection hA' with y1 y2
   subst y1 y2;rw[<-Nat.add_assoc]at z2;simp only at a3 a4 z1 z2;have oB:Old b w3:=⟨z3⟩;have hc1:wr.cell? ⟨b,o+k*2,none⟩=some (.int .i64 (zi m x)):=(zh w3).trans z1;have hc2:wr.cell? ⟨b,o+k*2+1,none⟩=some (.slice B x.length cx):=(zh w3).trans z2;have HCA:=Zh (fun W(e:Ext w3 W)=>zoQ (w:=W) (c:=cx) a3 (by omega) hxb);have HT:=Zh (HTK.out k x hxk);have HIX:=Zh a3;unfold zev at HCA;rw[hxl]at HCA hc2 a4
   have zrw:=Zh hxl;clear a1 a2 a3 z1 z2 hxk hxl hxb;obtain⟨nv,hnv⟩:=Xz (zi m x);have HNV:=Zh hnv;rw[<-hnv]at hc1;clear hnv;by_cases hz:zG x=0
   ·have hps:zab m (Zp m (xs.take k)) x=Zp m (xs.take k):=by unfold zab;rw[if_neg (by omega)]
    have HPS:=Zh (HT.out.trans hps);clear hps;go_wp2_with (go_at_call 46;refine(HCA.out _ Zi).mono ?_;rintro e w5 (⟨-,rfl,hs5⟩|⟨zs5,-⟩);(rotate_left;(exact absurd hz zs5)))
    refine⟨⟨k+1,A5,c5,vs,by omega,by go_num,by rw[HPS.out],Zh ?_,Zh ?_,Zi⟩,by simp[intOf]<;>omega⟩
    ·rw[HPS.out];exact HO5.out.ext Zi
    ·rw[HPS.out];exact HV5.out.ext Zi
   ·by_cases hp:0<zG x
    ·have hcx:zH x=x:=(zin hz).2 hp;have hlx:zy x (zH x)=0:=by rw[hcx];exact zdu x
     have HPS:Hid (Zp m (xs.take (k+1))=Zj (Zp m (xs.take k)) (zi m x,x)):=Zh (by rw[HT.out];unfold zab;rw[if_pos hp]);have HCM:Hid (∀(W1 W:World)C d,Ints W1 C 2 .i64 (zH x)->Ext W1 W->Ext w3 W->Cq 47 #[.slice B n cx,.slice C n d] W (zdz W (.int .i64 0))):=Zh (fun W1 W C d i1 e1 e2=>by
      have h:=zdA (w0:=W) (w:=W) (c:=cx) (d:=d) (HIX.out.ext e2) (i1.ext e1) (by rw[zrw.out];omega) (by rw[jM,zrw.out];omega);rw[jM,hlx,zrw.out]at h;exact h)
     have HPT:Hid (∀W,Ext wr W->Cq 48 #[.slice A5 (Zp m (xs.take k)).length c5,.agg #[.int .i64 nv,.slice B n cx]] W (zcF W w.heap.size (Zj (Zp m (xs.take k)) (zi m x,x)))):=Zh (fun W e=>by
      have h:=zps (a:=nv) (HO5.out.ext e) (HV5.out.ext e) (zsW.trans e).size (HIL.out k) (HIX.out.ext (hxr.trans e)) (by rw[zrw.out];exact a4) a5 (by rw[zrw.out];omega) (HIM.out k);rw[zrw.out,HNV.out]at h;rw[HNV.out];exact h)
     unfold zcF at HPT;rw[<-HPS.out]at HPT;clear hcx hlx;obtain⟨I2,hI2⟩:=Xz (Zp m (xs.take (k+1)));rw[<-hI2]at HPT;have HI2:=Zh hI2;clear hI2;go_wp2_with (first
      |(go_at_call 46;refine(HCA.out _ Zi).mono ?_;rintro e w5 (⟨zs5,-⟩|⟨-,C5,d5,rfl,hI5,-,-,hs5⟩);(exact absurd zs5 hz);have HI5:=Zh hI5;clear hI5)
      |(go_at_call 47;refine(HCM.out _ _ _ _ HI5.out Zi Zi).mono ?_;rintro e w6 ⟨rfl,nq,rfl⟩)
      |(go_at_call 48;refine(HPT.out _ Zi).mono ?_;rintro e w7 ⟨A7,c7,vs7,rfl,hO7,hV7,hx7⟩;have HO7:=Zh hO7;have HV7:=Zh hV7;have zxK:Ext w3 w7:=(Zi:Ext w3 (w5.drewN nq)).trans hx7;clear hO7 hV7))
     exact⟨⟨k+1,A7,c7,vs7,by omega,by go_num,by rw[HI2.out],by rw[<-HI2.out];exact HO7,by rw[<-HI2.out];exact HV7,zxK.trans Zi⟩,by simp[intOf]<;>omega⟩
    ·have hlx:zy x (zH x)≠0:=fun h=>hp ((zin hz).1 (zav _ _ h).symm)
     have hle:(zy x (zH x)==0)=false:=by simpa using hlx
     have HPS:Hid (Zp m (xs.take (k+1))=Zp m (xs.take k)):=Zh (by rw[HT.out];unfold zab;rw[if_neg hp]);have HCM:Hid (∀(W1 W:World)C d,Ints W1 C 2 .i64 (zH x)->Ext W1 W->Ext w3 W->Cq 47 #[.slice B n cx,.slice C n d] W (zdz W (.int .i64 (zy x (zH x))))):=Zh (fun W1 W C d i1 e1 e2=>by
      have h:=zdA (w0:=W) (w:=W) (c:=cx) (d:=d) (HIX.out.ext e2) (i1.ext e1) (by rw[zrw.out];omega) (by rw[jM,zrw.out];omega);rw[jM,zrw.out]at h;exact h)
     clear hlx;generalize zy x (zH x)=lx at*
     go_wp2_with (first
      |(go_at_call 46;refine(HCA.out _ Zi).mono ?_;rintro e w5 (⟨zs5,-⟩|⟨-,C5,d5,rfl,hI5,-,-,hs5⟩);(exact absurd zs5 hz);have HI5:=Zh hI5;clear hI5)
      |(go_at_call 47;refine(HCM.out _ _ _ _ HI5.out Zi Zi).mono ?_;rintro e w6 ⟨rfl,nq,rfl⟩))
     refine⟨⟨k+1,A5,c5,vs,by omega,by go_num,by rw[HPS.out],Zh ?_,Zh ?_,Zi⟩,by simp[intOf]<;>omega⟩
     ·rw[HPS.out];exact HO5.out.ext Zi
     ·rw[HPS.out];exact HV5.out.ext Zi
  ·obtain rfl:k=N:=by omega
   have htk:xs.take k=xs:=List.take_of_length_le (by rw[<-HN.out];exact Zr);rw[htk]at HO5 HV5;rw[htk];go_wp2_with fail
   go_ret;exact⟨A5,c5,vs,rfl,HO5.out,HV5.out,zsW.toStep⟩
end
section
namespace La
def QP(i j:Nat)(q:Int)(f:Nat->Nat->Int):Nat->Nat->Int:=fun x y=>(f x y-(if x=i then q*f j y else 0))-(if y=i then q*(f x j-(if x=i then q*f j j else 0)) else 0)
def Je(p:Nat)(f:Nat->Nat->Int):Nat->Nat->Int:=fun x y=>f (sg p x) (sg p y)
def qe(i x:Nat):Int:=if x=i then-1 else 1
def ngZ(i:Nat)(f:Nat->Nat->Int):Nat->Nat->Int:=fun x y=>qe i x*qe i y*f x y
def sn(i x:Nat):Rat:=if x=i then-1 else 1
def ngf(i:Nat)(f:Mx):Mx:=fun x y=>sn i x*sn i y*f x y
theorem ziq(i x:Nat):sn i x*sn i x=1:=by unfold sn;split<;>grind
theorem zpy(i:Nat)(f:Mx)(k:Nat):elim (ngf i f) k=ngf i (elim f k):=by
 funext x y
 have h:=ziq i k;simp only[elim,ngf];rw[h,Rat.one_mul,show sn i x*sn i k*f x k*(sn i k*sn i y*f k y)=(sn i k*sn i k)*(sn i x*sn i y*(f x k*f k y)) by grind,h];grind
theorem zir(i:Nat)(f:Mx)(l:Nat):S (ngf i f) l=ngf i (S f l):=by
 induction l with
 |zero=>rfl
 |succ l ih=>
  show elim (S (ngf i f) l) l=ngf i (elim (S f l) l);rw[ih,zpy]
theorem zis(i:Nat)(f:Mx)(l:Nat):ngf i f l l=f l l:=by unfold ngf;rw[ziq,Rat.one_mul]
theorem Pos.ngf{f:Mx}(h:Pos f n)(i:Nat):Pos (ngf i f) n:=fun l hl=>by
 rw[zir,zis];exact h l hl
theorem Sym.ngf{f:Mx}(h:Sym f)(i:Nat):Sym (ngf i f):=fun x y=>by
 unfold La.ngf;rw[h x y,Rat.mul_comm (sn i x)]
theorem zpz(i:Nat)(f:Mx)(k:Nat):dd (ngf i f) k=dd f k:=by
 induction k with
 |zero=>rfl
 |succ k ih=>
  show dd (ngf i f) k*S (ngf i f) k k k=dd f k*S f k k k;rw[ih,zir,zis]
theorem zit(i j:Nat)(q:Int)(f:Nat->Nat->Int):zg (QP i j q f)=Zc i j q (zg f):=by
 funext x y
 simp only[zg,QP,Zc,Qx,Qw];split<;>split<;>simp only[Rat.intCast_sub,Rat.intCast_mul,Rat.intCast_zero]<;>grind
theorem ziu(p:Nat)(f:Nat->Nat->Int):zg (Je p f)=swf p (zg f):=rfl
theorem zpA(i:Nat)(f:Nat->Nat->Int):zg (ngZ i f)=ngf i (zg f):=by
 funext x y
 simp only[zg,ngZ,ngf,qe,sn,Rat.intCast_mul];split<;>split<;>simp
theorem ziv(h:zg f=zg g):f=g:=by
 funext x y
 have:=congrFun (congrFun h x) y;simpa[zg,Rat.intCast_inj] using this
inductive Bs (n:Nat) (f:Nat->Nat->Int):(Nat->Nat->Int)->Prop
 |refl:Bs n f f
 |red {g:Nat->Nat->Int} (i j:Nat) (q:Int):Bs n f g->j<i->i<n->Bs n f (QP i j q g)
 |sw {g:Nat->Nat->Int} (p:Nat):Bs n f g->p+1<n->Bs n f (Je p g)
 |ng {g:Nat->Nat->Int} (i:Nat):Bs n f g->i<n->Bs n f (ngZ i g)
theorem Bs.ok(h:Bs n f g)(hs:Sym (zg f))(hp:Pos (zg f) n):Sym (zg g)/\Pos (zg g) n/\dd (zg g) n=dd (zg f) n:=by
 induction h with
 |refl=>exact⟨hs,hp,rfl⟩
 |red i j q _ h1 h2 ih=>
  obtain⟨a,b,c⟩:=ih;rw[zit];exact⟨a.red i j q,b.red q h1,by rw[zbJ q h1 n b.piv,c]⟩
 |@sw g p _ h1 ih=>
  obtain⟨a,b,c⟩:=ih;rw[ziu];refine⟨a.swf p,Pos.swf a b h1,?_⟩;have hq:=Jk a b (i:=p+1) (l:=p) h1 (by omega);have:=zbK (p:=p) (b.le (by omega:p+2<=n)).piv (by grind) (n-(p+2));rw[show p+2+(n-(p+2))=n by omega]at this;rw[this,c]
 |ng i _ h1 ih=>
  obtain⟨a,b,c⟩:=ih;rw[zpA];exact⟨a.ngf i,b.ngf i,by rw[zpz,c]⟩
def tr(i j x:Nat):Nat:=if x=i then j else if x=j then i else x
def Qs(i j:Nat)(f:Nat->Nat->Int):Nat->Nat->Int:=fun x y=>f (tr i j x) (tr i j y)
theorem zpB(i j x:Nat):tr i j (tr i j x)=x:=by unfold tr;(repeat' split)<;>omega
theorem zcH(p x:Nat):sg p (sg p x)=x:=by unfold sg;(repeat' split)<;>omega
theorem ziw(i j x:Nat)(h:i<j):tr i (j+1) x=sg j (tr i j (sg j x)):=by
 unfold tr sg;(repeat' split)<;>omega
theorem zpC(i j x:Nat):tr i j x=tr j i x:=by unfold tr;(repeat' split)<;>omega
theorem Bs.trUp(i d:Nat):∀g,Bs n f g->i+d+1<n->Bs n f (Qs i (i+d+1) g):=by
 induction d with
 |zero=>
  intro g h hi;have e:Qs i (i+0+1) g=Je i g:=by
   funext x y
   have:∀x,tr i (i+0+1) x=sg i x:=fun x=>by unfold tr sg;(repeat' split)<;>omega
   simp only[Qs,Je,this]
  rw[e];exact h.sw i hi
 |succ d ih=>
  intro g h hi;have h1:=(ih _ (h.sw (i+d+1) (by omega)) (by omega)).sw (i+d+1) (by omega);have e:Qs i (i+(d+1)+1) g=Je (i+d+1) (Qs i (i+d+1) (Je (i+d+1) g)):=by
   funext x y
   simp only[Qs,Je];rw[show i+(d+1)+1=(i+d+1)+1 by omega,ziw _ _ x (by omega),ziw _ _ y (by omega)]
  rw[e];exact h1
theorem Bs.tr(h:Bs n f g)(hi:i<n)(hj:j<n)(hne:i≠j):Bs n f (Qs i j g):=by
 rcases Nat.lt_or_gt_of_ne hne with h1|h1
 ·have:=h.trUp i (j-i-1) (by omega);rw[show i+(j-i-1)+1=j by omega]at this;exact this hj
 ·have:=h.trUp j (i-j-1) (by omega);rw[show j+(i-j-1)+1=i by omega]at this;have e:Qs i j g=Qs j i g:=by
   funext x y
   simp only[Qs,zpC i j]
  rw[e];exact this hi
theorem Bs.add(q:Int)(h:Bs n f g)(hi:i<n)(hj:j<n)(hne:i≠j):Bs n f (QP i j q g):=by
 rcases Nat.lt_or_gt_of_ne hne with h1|h1
 ·have h2:=((h.tr hi hj hne).red j i q h1 hj).tr hi hj hne;have e:QP i j q g=Qs i j (QP j i q (Qs i j g)):=by
   funext x y
   have t1:La.tr i j i=j:=by unfold La.tr;simp
   have t3:∀x,La.tr i j x=j↔x=i:=fun x=>by unfold La.tr;(repeat' split)<;>omega
   simp only[QP,Qs,zpB,t1,t3]
  rwa [e]
 ·exact h.red i j q h1 hi
def bz(n:Nat)(f:Nat->Nat->Int)(x y:Nat->Int):Int:=zj n fun i=>x i*zj n fun j=>f i j*y j
def Qb(i j:Nat)(q:Int)(x:Nat->Int):Nat->Int:=fun k=>if k=j then x j-q*x i else x k
theorem zix{a:Nat}(F:Nat->Int)(ha:a<n):(zj n fun c=>if c=a then F c else 0)=F a:=by
 rw[zay ha (fun i _ hne=>by rw[if_neg hne]),if_pos rfl]
theorem ziy(q:Int)(A y:Nat->Int)(hi:i<n)(hj:j<n):(zj n fun c=>(A c-(if c=i then q*A j else 0))*y c)=zj n fun c=>A c*Qb i j q y c:=by
 have e1:(zj n fun c=>(A c-(if c=i then q*A j else 0))*y c)=(zj n fun c=>A c*y c)-zj n fun c=>if c=i then q*A j*y c else 0:=by
  rw[<-zcb];exact zX fun c _=>by split<;>grind
 have e2:(zj n fun c=>A c*Qb i j q y c)=(zj n fun c=>A c*y c)-zj n fun c=>if c=j then A c*(q*y i) else 0:=by
  rw[<-zcb];exact zX fun c _=>by unfold Qb;split<;>grind
 rw[e1,e2,zix (fun c=>q*A j*y c) hi,zix (fun c=>A c*(q*y i)) hj];grind
theorem jV(a:Int)(n:Nat)(F:Nat->Int):(zj n fun i=>a*F i)=a*zj n F:=by
 induction n with
 |zero=>simp[zj]
 |succ n ih=>rw[ZD,ih,ZD,Int.mul_add]
theorem zpD(q:Int)(f:Nat->Nat->Int)(x y:Nat->Int)(hi:i<n)(hj:j<n):bz n (QP i j q f) x y=bz n f (Qb i j q x) (Qb i j q y):=by
 unfold bz;have e1:∀r,(zj n fun c=>QP i j q f r c*y c)=(zj n fun c=>f r c*Qb i j q y c)-(if r=i then q*zj n (fun c=>f j c*Qb i j q y c) else 0):=fun r=>by
  have h1:=ziy q (fun c=>f r c-(if r=i then q*f j c else 0)) y hi hj;have h2:(zj n fun c=>QP i j q f r c*y c)=zj n fun c=>(f r c-(if r=i then q*f j c else 0))*Qb i j q y c:=h1
  rw[h2];split
  ·rw[<-jV,<-zcb];exact zX fun c _=>by grind
  ·rw[Int.sub_zero];exact zX fun c _=>by grind
 have e2:(zj n fun r=>x r*zj n fun c=>QP i j q f r c*y c)=zj n fun r=>((zj n fun c=>f r c*Qb i j q y c)-(if r=i then q*zj n (fun c=>f j c*Qb i j q y c) else 0))*x r:=zX fun r _=>by rw[e1 r,Int.mul_comm]
 rw[e2,ziy q (fun r=>zj n fun c=>f r c*Qb i j q y c) x hi hj];exact zX fun r _=>Int.mul_comm _ _
theorem ziz(F:Nat->Int)(hp:p+1<n):(zj n fun i=>F (sg p i))=zj n F:=by
 obtain⟨d,rfl⟩:∃d,n=p+2+d:=⟨n-(p+2),by omega⟩;induction d with
 |zero=>
  show zj (p+1+1) _=zj (p+1+1) _;rw[ZD,ZD,ZD,ZD,zag,zcP];have:(zj p fun i=>F (sg p i))=zj p F:=zX fun i hi=>by rw[jd (by omega) (by omega)]
  rw[this];omega
 |succ d ih=>
  show zj (p+2+d+1) _=zj (p+2+d+1) _;rw[ZD,ZD,ih (by omega),jd (by omega) (by omega)]
theorem zpE(f:Nat->Nat->Int)(x y:Nat->Int)(hp:p+1<n):bz n (Je p f) x y=bz n f (fun k=>x (sg p k)) (fun k=>y (sg p k)):=by
 unfold bz;have e1:∀r,(zj n fun c=>Je p f r c*y c)=zj n fun c=>f (sg p r) c*y (sg p c):=fun r=>by
  rw[<-ziz (fun c=>f (sg p r) c*y (sg p c)) hp];exact zX fun c _=>by rw[zcH];rfl
 rw[<-ziz (fun r=>x (sg p r)*zj n fun c=>f r c*y (sg p c)) hp];exact zX fun r _=>by rw[e1 r,zcH]
theorem zpF(i:Nat)(f:Nat->Nat->Int)(x y:Nat->Int):bz n (ngZ i f) x y=bz n f (fun k=>qe i k*x k) (fun k=>qe i k*y k):=by
 unfold bz;refine zX fun r _=>?_
 show _=qe i r*x r*_;rw[Int.mul_comm (qe i r) (x r),Int.mul_assoc];congr 1
 show _=qe i r*zj n fun c=>f r c*(qe i c*y c)
 rw[<-jV (qe i r)];exact zX fun c _=>by unfold ngZ;grind
structure Bij(n:Nat)(f g:Nat->Nat->Int)(u v:(Nat->Int)->Nat->Int):Prop where
 uv:∀x,u (v x)=x
 vu:∀x,v (u x)=x
 neg:∀x,u (fun k=>-x k)=fun k=>-u x k
 off:∀x k,n<=k->u x k=x k
 bil:∀x y,bz n g x y=bz n f (u x) (u y)
theorem Bij.symm{u v:(Nat->Int)->Nat->Int}(h:Bij n f g u v):Bij n g f v u where
 uv:=h.vu
 vu:=h.uv
 neg:=fun x=>by
  have:=h.neg (v x);rw[h.uv]at this;have h2:=congrArg v this;rw[h.vu]at h2;exact h2.symm
 off:=fun x k hk=>by
  have:=h.off (v x) k hk;rw[h.uv]at this;exact this.symm
 bil:=fun x y=>by rw[h.bil (v x) (v y),h.uv,h.uv]
theorem Bij.trans{k:Nat->Nat->Int}{u v u' v':(Nat->Int)->Nat->Int}(h:Bij n f g u v)(h':Bij n g k u' v'):Bij n f k (fun x=>u (u' x)) (fun x=>v' (v x)) where
 uv:=fun x=>by simp only[h'.uv,h.uv]
 vu:=fun x=>by simp only[h.vu,h'.vu]
 neg:=fun x=>by simp only[h'.neg,h.neg]
 off:=fun x j hj=>by rw[h.off _ _ hj,h'.off _ _ hj]
 bil:=fun x y=>by rw[h'.bil,h.bil]
theorem zpG(i k:Nat):qe i k*qe i k=1:=by unfold qe;split<;>rfl
theorem Bs.bij(h:Bs n f g):∃u v,Bij n f g u v:=by
 induction h with
 |refl=>exact⟨id,id,fun _=>rfl,fun _=>rfl,fun _=>rfl,fun _ _ _=>rfl,fun _ _=>rfl⟩
 |red i j q _ h1 h2 ih=>
  obtain⟨u,v,ih⟩:=ih;refine⟨_,_,ih.trans (u':=Qb i j q) (v':=Qb i j (-q)) ⟨fun x=>?_,fun x=>?_,fun x=>?_,fun x k hk=>?_,fun x y=>zpD q _ x y h2 (by omega)⟩⟩
  ·funext k;unfold Qb;(repeat' split)<;>first|omega|grind
  ·funext k;unfold Qb;(repeat' split)<;>first|omega|grind
  ·funext k;unfold Qb;split<;>grind
  ·unfold Qb;rw[if_neg (by omega)]
 |sw p _ h1 ih=>
  obtain⟨u,v,ih⟩:=ih;refine⟨_,_,ih.trans (u':=fun x k=>x (sg p k)) (v':=fun x k=>x (sg p k)) ⟨fun x=>?_,fun x=>?_,fun x=>rfl,fun x k hk=>?_,fun x y=>zpE _ x y h1⟩⟩
  ·funext k;simp only[zcH]
  ·funext k;simp only[zcH]
  ·rw[jd (by omega) (by omega)]
 |ng i _ h1 ih=>
  obtain⟨u,v,ih⟩:=ih;have e:∀(x:Nat->Int)k,qe i k*(qe i k*x k)=x k:=fun x k=>by rw[<-Int.mul_assoc,zpG,Int.one_mul]
  refine⟨_,_,ih.trans (u':=fun x k=>qe i k*x k) (v':=fun x k=>qe i k*x k) ⟨fun x=>?_,fun x=>?_,fun x=>?_,fun x k hk=>?_,fun x y=>zpF i _ x y⟩⟩
  ·funext k;exact e x k
  ·funext k;exact e x k
  ·funext k;rw[Int.mul_neg]
  ·unfold qe;rw[if_neg (by omega),Int.one_mul]
end La
end
end Go.Proofs.YtcmkopogafchiaaGreat
