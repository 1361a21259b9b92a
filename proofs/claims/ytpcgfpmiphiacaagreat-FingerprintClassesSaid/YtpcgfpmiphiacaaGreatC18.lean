import Derived.Test.YtpcgfpmiphiacaaGreatC17
import Derived.Lib.SmallJoins
import Derived.ChangeSlices
import Derived.Test.YtpcgfpmiphiacaaGreatRows
set_option maxHeartbeats 8000000
set_option linter.unusedVariables false
set_option linter.unusedSimpArgs false
namespace Go.Proofs.YtpcgfpmiphiacaaGreat
variable {b:Bool} {dim kind x:Int} {k:IntKind} {a m:List (List Int)} {l:List Int} {c most n nc:Nat} {A NA:Option Addr} {P:Program} {e t te:TypeId} {v v3:Value} {w w0:World}
section
open Go.RowKit
theorem zpa(s:Bool)(hs:s=true↔j3 a/\detF a<=10000)(h:Mat64 w0 A a)(h1:a.length=n)(h3:1<=n)(h4:n<=8)(hn:AllLen a n)(h64:qT a)(hb:BdM 199 a)[hx:Ext w0 w]:
  Cq 73 #[.slice A n c] w (zy w (.bool s)):=by
 have HOF:Hid (∀W,Ext w W->Cq 32 #[.slice A n c] W (RetOwnI W n a)):=Zh (fun W e=>by
  have:Ext w0 W:=hx.trans e;have:=zce (w:=W) (c:=c) h.a n (by omega) (by omega) h3 (by omega) hn h64;rwa [h1]at this)
 obtain⟨sv,hsv⟩:∃sv:Bool,sv=true↔j3 a:=⟨@decide (j3 a) (Classical.propDecidable _),by simp⟩;have HVA:Hid (∀(W1 W:World)(A1:Option Addr)(c1:Nat),MatV W1 A1 a->Ext W1 W->Cq 61 #[.slice A1 n c1] W (fun e w'=>∃v:Int,e= .returned (.int .i64 v)/\(v=0↔sv=true)/\0<=v/\v<=5/\Step W w')):=Zh (fun W1 W A1 c1 hM e=>zec sv hsv hM h1 h3 h4 hn hb (by omega) (by omega));have HDT:Hid (∀(W1 W:World)(A1:Option Addr)(c1:Nat),MatV W1 A1 a->Ext W1 W->Cq 116 #[.slice A1 n c1] W (zD W (detF a))):=Zh (fun W1 W A1 c1 hM e=>zd7 hM h1 h3 h4 hn hb (by omega) (by omega))
 have hbd:=zea h1 h4 (by omega) hb;have HC:Hid (∀(W1 W2 W:World)(g1:Bool)B1 n1 c1(g2:Bool)B2 n2 c2,IntV W1 g1 B1 n1 c1 (detF a)->IntV W2 g2 B2 n2 c2 10000->Ext W1 W->Ext W2 W->Cq 115 #[.agg #[.bool g1,.slice B1 n1 c1],.agg #[.bool g2,.slice B2 n2 c2]] W (zy W (.int .i64 (zk (detF a) 10000)))):=Zh (fun W1 W2 W g1 B1 n1 c1 g2 B2 n2 c2 ha hb e1 e2=>zai ha hb (by have:=ha.bd hbd (by omega);omega) (by have:=hb.len (k:=1) (by decide);omega))
 have HL:=Zh h1
 cases hsb:sv
 ·rw[hsb]at HVA hsv;have HF:Hid (s=false):=Zh (by
   cases s with
   |false=>rfl
   |true=>exact absurd (hsv.2 (hs.1 rfl).1) (by simp))
  clear hsb hsv hs hbd hn hb h64 h1;go_enter Tryz.func73,Tryz.ntmps73;go_wp2_with (first
   |(go_at_call 32;refine(HOF.out _ Zi).mono ?_;rintro e w1 ⟨g1,zu0,c1,rfl,hO1,-,-,hs1⟩;rw[HL.out];have HM:=Zh hO1.mat;clear hO1)
   |(go_at_call 61;refine(HVA.out _ _ _ _ HM.out Zi).mono ?_;rintro e w2 ⟨v,rfl,hv,hv0,hv5,hs2⟩;have hvz:(v==0)=false:=(by simp at hv;simp;exact hv);clear hv))
  go_ret;exact⟨by rw[HF.out];simp,Step.of _ _⟩
 ·rw[hsb]at HVA hsv;have HF:Hid (decide (zk (detF a) 10000<=0)=s):=Zh (by
   rw[zcl]
   cases s with
   |false=>
    refine decide_eq_false fun hd=>?_
    have:=hs.2 ⟨hsv.1 rfl,hd⟩
    cases this
   |true=>exact decide_eq_true (hs.1 rfl).2)
  clear hsb hsv hs hbd hn hb h64 h1;generalize detF a=D at*
  go_enter Tryz.func73,Tryz.ntmps73;go_wp2_with (first
   |(go_at_call 32;refine(HOF.out _ Zi).mono ?_;rintro e w1 ⟨g1,zu0,c1,rfl,hO1,-,-,hs1⟩;rw[HL.out];have HM:=Zh hO1.mat;clear hO1)
   |(go_at_call 61;refine(HVA.out _ _ _ _ HM.out Zi).mono ?_;rintro e w2 ⟨v,rfl,hv,hv0,hv5,hs2⟩;obtain rfl:v=0:=(by simpa using hv);clear hv)
   |(go_at_call 116;refine(HDT.out _ _ _ _ HM.out Zi).mono ?_;rintro e w3 ⟨g3,B3,k3,d3,rfl,hz3,hs3⟩)
   |(go_at_call 88;refine(Qf 10000 (by omega) (by omega) _).mono ?_;rintro e w4 ⟨g4,B4,k4,d4,rfl,hz4,hs4⟩)
   |(go_at_call 115;refine(HC.out _ _ _ _ _ _ _ _ _ _ _ hz3 hz4 Zi Zi).mono ?_;rintro e w5 ⟨rfl,hs5⟩))
  go_ret;exact⟨by rw[<-HF.out];simp,Step.of _ _⟩
def SmM(a:List (List Int)):Prop:=∀i j,-100<=ent a i j/\ent a i j<=100
theorem SmM.bd(h:SmM a):BdM 199 a:=fun i j=>by
 have:=h i j;refine Nat.lt_of_lt_of_le (m:=2^7) (by omega) (Nat.pow_le_pow_right (by omega) (by omega))
theorem SmM.fits(h:SmM a)(hn:AllLen a n):qT a:=by
 rw[<-zfu a n hn];intro r hr x hx;obtain⟨i,hi,rfl⟩:=List.mem_map.1 hr;obtain⟨j,hj,rfl⟩:=List.mem_map.1 hx;have:=h i j;omega
theorem SmM.tab{F:Nat->Nat->Int}{r:Nat}(h:∀i j,-100<=F i j/\F i j<=100):SmM (tab F n r):=fun i j=>by
 by_cases hi:i<n/\j<r
 ·rw[Qn F n r i j hi.1 hi.2];exact h i j
 ·rw[zar F n r i j hi];omega
theorem SmM.set{i j:Nat}{z:Int}(h:SmM a)(hn:AllLen a n)(hi:i<a.length)(hj:j<n)(hz:-100<=z/\z<=100):SmM (Zf a i j z):=fun x y=>by
 have hrl:(a.getD i []).length=n:=by
  have e:a.getD i []=a[i]:=by simp[List.getD,hi]
  rw[e];exact hn _ (List.getElem_mem hi)
 rw[zg3 hi (by rw[hrl];exact hj)];split
 ·exact hz
 ·exact h x y
theorem J1(l:List Int)(k n most:Nat)(h1:1<=most)(h2:most<=9):SmM (qC l k n most):=SmM.tab fun i j=>by
 split
 ·have h3:=Int.emod_nonneg (l.getD (k+i) 0%256) (show (most:Int)≠0 by omega);have h4:=Int.emod_lt_of_pos (l.getD (k+i) 0%256) (show (0:Int)<most by omega);omega
 ·omega
theorem zpb(l:List Int)(k n:Nat):SmM (zee l k n):=SmM.tab fun i j=>by
 unfold Qj;split
 ·omega
 ·split
  ·unfold Jq;have:=zhH (l.getD (k+n+Qi (max i j)+min i j) 0);omega
  ·omega
theorem zih(fork:Bool)(n:Nat):SmM (Q6 fork n):=SmM.tab fun i j=>by
 unfold qD;split
 ·omega
 ·split<;>omega
theorem zbw(l:List Int)(k n:Nat)(n1:1<=n)(n8:n<=8):Gm n (qC l k n 2):=by
 refine znd n1 n8 (zw _ _ _) (Qm _ _ _) (fun i j hij=>?_) (fun i hi=>?_)
 ·unfold qC;by_cases h:i<n/\j<n
  ·rw[Qn _ n n i j h.1 h.2,if_neg hij]
  ·rw[zar _ n n i j h]
 ·unfold qC;rw[Qn _ n n i i hi hi,if_pos rfl];omega
def zii(w:World)(n:Nat)(e:Ending)(w':World):Prop:=∃g a,e= .returned (.slice (some ⟨g,0,none⟩) n n)/\Mat64 w' (some ⟨g,0,none⟩) a/\Gm n a/\qT a/\Ext w w'
theorem zij(fork:Bool)(n i j:Nat):-2<=ent (Q6 fork n) i j/\ent (Q6 fork n) i j<=2:=by
 unfold Q6;by_cases h:i<n/\j<n
 ·rw[Qn _ n n i j h.1 h.2];unfold qD;split
  ·omega
  ·split<;>omega
 ·rw[zar _ n n i j h];omega
set_option maxRecDepth 10000 in
theorem zpc(hN:Ints w NA te .i8 l)(h8:I8 l)(hl:l.length<=9223372036854775807)(hd0:0<=dim)(hd1:dim<256)(hk0:0<=kind)(hk1:kind<256)(hm1:1<=most)(hm8:most<=8):
  Cq 33 #[.agg #[.int .u8 dim,.int .u8 kind,.slice NA l.length nc,v3],.int .i64 most] w (zii w (1+(dim%most).toNat)):=by
 have hmz:((most:Int)==0)=false:=by simp;omega
 have hdm:=Int.emod_nonneg dim (show (most:Int)≠0 by omega);have zvY:=Int.emod_lt_of_pos dim (show (0:Int)<most by omega);have hdt:dim.tmod most=dim%most:=Int.tmod_eq_emod_of_nonneg hd0;have hdw:IntKind.i64.wrap dim=dim:=Iw;obtain⟨n,hn⟩:=Xz (1+(dim%most).toNat);rw[<-hn];have hne:1+dim%most=(n:Int):=by omega
 have hn1:1<=n:=by omega
 have hn8:n<=8:=by omega
 have hnw:IntKind.i64.wrap (1+dim%most)=(n:Int):=by rw[hne];exact Iw
 have hkm:=Int.emod_nonneg kind (show (8:Int)≠0 by omega);have zxm:=Int.emod_lt_of_pos kind (show (0:Int)<8 by omega);have hkt:kind.tmod 8=kind%8:=Int.tmod_eq_emod_of_nonneg hk0;generalize kind%8=kk at*
 have hkw:IntKind.u8.wrap kk=kk:=by rw[IntKind.wrap_u8];omega
 have HN:=Zh hN;have hT0:TapeAt ((w.alloc (.cells #[.int .u8 dim,.int .u8 kind,.slice NA l.length nc,v3] 24)).alloc (.cells #[.slice NA l.length nc,.int .i64 0] 75)) (w.heap.size+1) l 0:=by
  refine⟨te,NA,nc,?_,hN.ext Zi,fun h0 a ha=>?_⟩
  ·rw[Nat.zero_min];have:=heap_alloc_new (w.alloc (.cells #[.int .u8 dim,.int .u8 kind,.slice NA l.length nc,v3] 24)) (.cells #[.slice NA l.length nc,.int .i64 0] 75);have e:(w.alloc (.cells #[.int .u8 dim,.int .u8 kind,.slice NA l.length nc,v3] 24)).heap.size=w.heap.size+1:=by simp
   rw[e]at this;exact this
  ·obtain⟨b,o,cs,fr,rfl,hb,hc⟩:=hN (by simpa using h0);injection ha with ha
   subst ha;have:=zF hb;simp only;omega
 have hx2:Ext w ((w.alloc (.cells #[.int .u8 dim,.int .u8 kind,.slice NA l.length nc,v3] 24)).alloc (.cells #[.slice NA l.length nc,.int .i64 0] 75)):=Zi;have zti:((w.alloc (.cells #[.int .u8 dim,.int .u8 kind,.slice NA l.length nc,v3] 24)).alloc (.cells #[.slice NA l.length nc,.int .i64 0] 75)).heap.size=w.heap.size+2:=by simp
 clear hN hn HN;go_enter Tryz.func33,Tryz.ntmps33;go_upto_region 6 with fail
 generalize ((w.alloc (.cells #[.int .u8 dim,.int .u8 kind,.slice NA l.length nc,v3] 24)).alloc (.cells #[.slice NA l.length nc,.int .i64 0] 75))=w2 at*
 have HT0:=Zh hT0;have HGD:Hid (∀(W:World)g hs a,P64 W (w.heap.size+2) g n n hs a->a.length=n->SmM a->∃s:Bool,(s=true->Gm n a)/\Cq 73 #[.slice (some ⟨g,0,none⟩) n n] W (zy W (.bool s))):=Zh (fun W g hs a hP hL hS=>by
  obtain⟨s,hs⟩:∃s:Bool,s=true↔j3 a/\detF a<=10000:=⟨@decide (j3 a/\detF a<=10000) (Classical.propDecidable _),by simp⟩;refine⟨s,fun hst=>?_,zpa s hs (hP.mat hL (by omega)) hL hn1 hn8 hP.all (hS.fits hP.all) hS.bd⟩;obtain⟨⟨h1,h2⟩,h3⟩:=hs.1 hst;exact zne hn1 hn8 hL hP.all (by rw[hL]at h1;exact h1) h2 h3 hS.bd)
 have HDG:Hid (∀(W:World)(k most:Nat),TapeAt W (w.heap.size+1) l k->1<=most->most<=1000->Cq 72 #[.pointer (some ⟨w.heap.size+1,0,none⟩),.int .i64 n,.int .i64 most] W (zco W (w.heap.size+1) l (k+n) n (qC l k n most))):=Zh (fun W k most hT h1 h2=>zhG hT h8 hl (by omega) h1 h2);have HGN:Hid (∀(W:World)(k:Nat),TapeAt W (w.heap.size+1) l k->Cq 70 #[.pointer (some ⟨w.heap.size+1,0,none⟩),.int .i64 n] W (zco W (w.heap.size+1) l (k+n+Qi n) n (zee l k n))):=Zh (fun W k hT=>zn5 hT h8 hl (by omega))
 have HCH:Hid (∀(W:World)(f:Bool),Cq 71 #[.int .i64 n,.bool f] W (zhJ W n (Q6 f n))):=Zh (fun W f=>zn9 f (by omega));have HBL:Hid (∀(W:World)(k m:Nat),TapeAt W (w.heap.size+1) l k->1<=m->m<=1000->Cq 28 #[.pointer (some ⟨w.heap.size+1,0,none⟩),.int .i64 m] W (zaC W (w.heap.size+1) l (k+1) (.int .i64 (l.getD k 0%256%m)))):=Zh (fun W k m hT h1 h2=>zhF hT h8 hl h1 h2);clear hT0 h8 hne hnw hdt hdw hdm zvY hd0 hd1 hmz hkt hkw hk0 hk1
 have zsJ:(kk=0∨kk=1∨kk=2∨kk=3)∨kk=4∨kk=5∨kk=6∨kk=7:=by omega
 clear hkm zxm;have HTail:Hid True:=Zh trivial;rcases zsJ with hc|rfl|rfl|rfl|rfl
 ·rcases hc with rfl|rfl|rfl|rfl
  all_goals
   go_upto_region 19 with (go_at_call 70;refine(HGN.out _ 0 (HT0.out.ext Zi)).mono ?_;rintro e w3 ⟨g,hs,rfl,hP,hL,hT3,hO3⟩)
   have hP2:=hP.lower (lo':=w.heap.size+2) (by have:=hx2.size;omega);have HSM:=Zh (zpb l 0 n);obtain⟨s,hsg,hC⟩:=HGD.out w3 g hs _ hP2 hL HSM.out;have zst:=hO3.ext hx2 (show w.heap.size<=w.heap.size+1 by omega);have HC:=Zh hC;have HS:=Zh hsg;have HPx:=Zh hP2;have HLx:=Zh hL;have HTx:=Zh hT3;clear hC hsg hP2 hP hL hT3 hO3
   cases s
   ·go_wp2_with (first
     |(go_at_call 73;refine HC.out.mono ?_;rintro e w4 ⟨rfl,hs4⟩)
     |(go_at_call 72;refine(HDG.out w4 _ 2 (HTx.out.ext Zi) (by omega) (by omega)).mono ?_;rintro e w5 ⟨g5,hs5,rfl,hP5,hL5,hT5,hO5⟩))
    go_ret;exact⟨g5,_,rfl,hP5.mat hL5 (by omega),zbw _ _ _ hn1 hn8,(J1 _ _ _ 2 (by omega) (by omega)).fits hP5.all,hO5.ext Zi (by omega)⟩
   ·go_wp2_with (go_at_call 73;refine HC.out.mono ?_;rintro e w4 ⟨rfl,hs4⟩)
    go_ret;exact⟨g,_,rfl,(HPx.out.ext Zi).mat HLx.out (by omega),HS.out (by simp),HSM.out.fits HPx.out.all,Zi⟩
 ·go_upto_region 13 with (go_at_call 71;refine(HCH.out _ _).mono ?_;rintro e w3 ⟨g,hs,rfl,hP,hL,hx3⟩)
  have hP2:=hP.lower (lo':=w.heap.size+2) (by have:=hx2.size;omega);have hTa:TapeAt w3 (w.heap.size+1) l 0:=HT0.out.ext Zi;have hO0:Only (w.heap.size+1) w2 w3:=Only.of_ext hx3 (by omega);have hTl:=hTa.lt;have HTa:=Zh hTa;have HO0:=Zh hO0;have HP2:=Zh hP2;have hi0:0<(Q6 false n).length:=by rw[hL];omega
  obtain⟨b,hb,c1,c2,c3,c4,c5⟩:=hP2.hdr (i:=0) hi0;obtain⟨d1,d2⟩:=hP2.entry (i:=0) (j:=0) hb hi0 (by omega);have hv:=zij false n 0 0;have HB:Hid (∀W,Ext w3 W->Cq 28 #[.pointer (some ⟨w.heap.size+1,0,none⟩),.int .i64 ((3:Nat):Int)] W (zaC W (w.heap.size+1) l 1 (.int .i64 (l.getD 0 0%256%((3:Nat):Int))))):=Zh (fun W e=>HBL.out W 0 3 (hTa.ext e) (by omega) (by omega));have hz0:0<=l.getD 0 0%256%((3:Nat):Int)/\l.getD 0 0%256%((3:Nat):Int)<=2:=by omega
  have HBD:=Zh hb;have zro:=Zh (zih false n);have HAL:=Zh hP2.all;have HLL:=Zh hL;generalize hve:ent (Q6 false n) 0 0=v at*
  have HE:=Zh hve;clear hve;generalize l.getD 0 0%256%((3:Nat):Int)=z at*
  generalize Q6 false n=a at*
  have hvw:IntKind.i64.wrap (v+z)=v+z:=Iw;have hnz:(0:Int)<n:=by omega
  clear hP hP2 hL hTa hO0 hb;go_region_with (go_at_call 28;refine(HB.out _ Zi).mono ?_;rintro e w5 ⟨rfl,hT5,hO5'⟩;have hO5:Only (w.heap.size+1) w3 w5:=(Only.of_ext Zi (Nat.le_of_lt hTl)).trans hO5';obtain⟨b',e1,f1,f2,f3,f4,-⟩:=(HP2.out.only hO5 (by omega)).hdr (i:=0) hi0;rw[HBD.out]at e1;injection e1 with e1;subst e1;obtain⟨g1,g2⟩:=(HP2.out.only hO5 (by omega)).entry (i:=0) (j:=0) HBD.out hi0 (by omega);rw[HE.out]at g1)
  all_goals
   have hTl5:w.heap.size+1<w5.heap.size:=hT5.lt;obtain⟨wc,hwc⟩:∃x,x=w5.setCell ⟨b,0,none⟩ (.int .i64 (v+z)):=⟨_,rfl⟩;have hP2:=(HP2.out.only hO5 (by omega)).set HBD.out hi0 (by omega) (v+z);have hT3:TapeAt wc (w.heap.size+1) l 1:=by
    rw[hwc];exact hT5.only fun x hx=>Below.heap_setCell _ ⟨b,0,none⟩ _ x (by simp;omega)
   have hO3:Only (w.heap.size+1) w2 wc:=by
    rw[hwc];exact(HO0.out.trans hO5).setNew (p:=⟨b,0,none⟩) (by simp;omega) (by omega) _
   have hL:(Zf a 0 0 (v+z)).length=n:=by rw[Jn];exact HLL.out
   have HSM:=Zh (zro.out.set HAL.out hi0 (by omega) (z:=v+z) (by omega));go_upto_region 19 with fail
   rw[<-hwc];rw[<-hwc]at hP2;clear hwc hT5 hO5 hO5' f1 f2 f3 f4 g1 g2;have hP:=hP2;obtain⟨s,hsg,hC⟩:=HGD.out wc g hs _ hP2 hL HSM.out;have zst:=hO3.ext hx2 (show w.heap.size<=w.heap.size+1 by omega);have HC:=Zh hC;have HS:=Zh hsg;have HPx:=Zh hP2;have HLx:=Zh hL;have HTx:=Zh hT3;clear hC hsg hP2 hP hL hT3 hO3
   cases s
   ·go_wp2_with (first
     |(go_at_call 73;refine HC.out.mono ?_;rintro e w4 ⟨rfl,hs4⟩)
     |(go_at_call 72;refine(HDG.out w4 _ 2 (HTx.out.ext Zi) (by omega) (by omega)).mono ?_;rintro e w5 ⟨g5,hs5,rfl,hP5,hL5,hT5,hO5⟩))
    go_ret;exact⟨g5,_,rfl,hP5.mat hL5 (by omega),zbw _ _ _ hn1 hn8,(J1 _ _ _ 2 (by omega) (by omega)).fits hP5.all,hO5.ext Zi (by omega)⟩
   ·go_wp2_with (go_at_call 73;refine HC.out.mono ?_;rintro e w4 ⟨rfl,hs4⟩)
    go_ret;exact⟨g,_,rfl,(HPx.out.ext Zi).mat HLx.out (by omega),HS.out (by simp),HSM.out.fits HPx.out.all,Zi⟩
 ·go_upto_region 16 with (go_at_call 71;refine(HCH.out _ _).mono ?_;rintro e w3 ⟨g,hs,rfl,hP,hL,hx3⟩)
  have hP2:=hP.lower (lo':=w.heap.size+2) (by have:=hx2.size;omega);have hTa:TapeAt w3 (w.heap.size+1) l 0:=HT0.out.ext Zi;have hO0:Only (w.heap.size+1) w2 w3:=Only.of_ext hx3 (by omega);have hTl:=hTa.lt;have HTa:=Zh hTa;have HO0:=Zh hO0;have HP2:=Zh hP2;obtain⟨p,hp⟩:∃p,p+1=n:=⟨n-1,by omega⟩;have hnp:(n:Int)-1=(p:Int):=by omega
  have zyu:IntKind.i64.wrap ((n:Int)-1)=(p:Int):=by rw[hnp];exact Iw
  have hi0:p<(Q6 true n).length:=by rw[hL];omega
  obtain⟨b,hb,c1,c2,c3,c4,c5⟩:=hP2.hdr (i:=p) hi0;obtain⟨d1,d2⟩:=hP2.entry (i:=p) (j:=p) hb hi0 (by omega);have hv:=zij true n p p;have HB:Hid (∀W,Ext w3 W->Cq 28 #[.pointer (some ⟨w.heap.size+1,0,none⟩),.int .i64 ((2:Nat):Int)] W (zaC W (w.heap.size+1) l 1 (.int .i64 (l.getD 0 0%256%((2:Nat):Int))))):=Zh (fun W e=>HBL.out W 0 2 (hTa.ext e) (by omega) (by omega));have hz0:0<=l.getD 0 0%256%((2:Nat):Int)/\l.getD 0 0%256%((2:Nat):Int)<=2:=by omega
  have HBD:=Zh hb;have zro:=Zh (zih true n);have HAL:=Zh hP2.all;have HLL:=Zh hL;generalize hve:ent (Q6 true n) p p=v at*
  have HE:=Zh hve;clear hve;generalize l.getD 0 0%256%((2:Nat):Int)=z at*
  generalize Q6 true n=a at*
  have hvw:IntKind.i64.wrap (v+z)=v+z:=Iw;have hnz:(p:Int)<n:=by omega
  have hpp:p<n:=by omega
  have hpw:IntKind.i64.wrap (p:Int)=(p:Int):=Iw;clear hP hP2 hL hTa hO0 hb;go_region_with (go_at_call 28;refine(HB.out _ Zi).mono ?_;rintro e w5 ⟨rfl,hT5,hO5'⟩;have hO5:Only (w.heap.size+1) w3 w5:=(Only.of_ext Zi (Nat.le_of_lt hTl)).trans hO5';obtain⟨b',e1,f1,f2,f3,f4,-⟩:=(HP2.out.only hO5 (by omega)).hdr (i:=p) hi0;rw[HBD.out]at e1;injection e1 with e1;subst e1;obtain⟨g1,g2⟩:=(HP2.out.only hO5 (by omega)).entry (i:=p) (j:=p) HBD.out hi0 (by omega);rw[HE.out]at g1)
  all_goals
   have hTl5:w.heap.size+1<w5.heap.size:=hT5.lt;obtain⟨wc,hwc⟩:∃x,x=w5.setCell ⟨b,p,none⟩ (.int .i64 (v+z)):=⟨_,rfl⟩;have hP2:=(HP2.out.only hO5 (by omega)).set HBD.out hi0 (by omega) (v+z);have hT3:TapeAt wc (w.heap.size+1) l 1:=by
    rw[hwc];exact hT5.only fun x hx=>Below.heap_setCell _ ⟨b,p,none⟩ _ x (by simp;omega)
   have hO3:Only (w.heap.size+1) w2 wc:=by
    rw[hwc];exact(HO0.out.trans hO5).setNew (p:=⟨b,p,none⟩) (by simp;omega) (by omega) _
   have hL:(Zf a p p (v+z)).length=n:=by rw[Jn];exact HLL.out
   have HSM:=Zh (zro.out.set HAL.out hi0 (by omega) (z:=v+z) (by omega));go_upto_region 19 with fail
   rw[<-hwc];rw[<-hwc]at hP2;clear hwc hT5 hO5 hO5' f1 f2 f3 f4 g1 g2;have hP:=hP2;obtain⟨s,hsg,hC⟩:=HGD.out wc g hs _ hP2 hL HSM.out;have zst:=hO3.ext hx2 (show w.heap.size<=w.heap.size+1 by omega);have HC:=Zh hC;have HS:=Zh hsg;have HPx:=Zh hP2;have HLx:=Zh hL;have HTx:=Zh hT3;clear hC hsg hP2 hP hL hT3 hO3
   cases s
   ·go_wp2_with (first
     |(go_at_call 73;refine HC.out.mono ?_;rintro e w4 ⟨rfl,hs4⟩)
     |(go_at_call 72;refine(HDG.out w4 _ 2 (HTx.out.ext Zi) (by omega) (by omega)).mono ?_;rintro e w5 ⟨g5,hs5,rfl,hP5,hL5,hT5,hO5⟩))
    go_ret;exact⟨g5,_,rfl,hP5.mat hL5 (by omega),zbw _ _ _ hn1 hn8,(J1 _ _ _ 2 (by omega) (by omega)).fits hP5.all,hO5.ext Zi (by omega)⟩
   ·go_wp2_with (go_at_call 73;refine HC.out.mono ?_;rintro e w4 ⟨rfl,hs4⟩)
    go_ret;exact⟨g,_,rfl,(HPx.out.ext Zi).mat HLx.out (by omega),HS.out (by simp),HSM.out.fits HPx.out.all,Zi⟩
 ·go_upto_region 19 with (go_at_call 72;refine(HDG.out _ 0 9 (HT0.out.ext Zi) (by omega) (by omega)).mono ?_;rintro e w3 ⟨g,hs,rfl,hP,hL,hT3,hO3⟩)
  have hP2:=hP.lower (lo':=w.heap.size+2) (by have:=hx2.size;omega);have HSM:=Zh (J1 l 0 n 9 (by omega) (by omega));obtain⟨s,hsg,hC⟩:=HGD.out w3 g hs _ hP2 hL HSM.out;have zst:=hO3.ext hx2 (show w.heap.size<=w.heap.size+1 by omega);have HC:=Zh hC;have HS:=Zh hsg;have HPx:=Zh hP2;have HLx:=Zh hL;have HTx:=Zh hT3;clear hC hsg hP2 hP hL hT3 hO3
  cases s
  ·go_wp2_with (first
    |(go_at_call 73;refine HC.out.mono ?_;rintro e w4 ⟨rfl,hs4⟩)
    |(go_at_call 72;refine(HDG.out w4 _ 2 (HTx.out.ext Zi) (by omega) (by omega)).mono ?_;rintro e w5 ⟨g5,hs5,rfl,hP5,hL5,hT5,hO5⟩))
   go_ret;exact⟨g5,_,rfl,hP5.mat hL5 (by omega),zbw _ _ _ hn1 hn8,(J1 _ _ _ 2 (by omega) (by omega)).fits hP5.all,hO5.ext Zi (by omega)⟩
  ·go_wp2_with (go_at_call 73;refine HC.out.mono ?_;rintro e w4 ⟨rfl,hs4⟩)
   go_ret;exact⟨g,_,rfl,(HPx.out.ext Zi).mat HLx.out (by omega),HS.out (by simp),HSM.out.fits HPx.out.all,Zi⟩
 ·go_upto_region 19 with (go_at_call 72;refine(HDG.out _ 0 1 (HT0.out.ext Zi) (by omega) (by omega)).mono ?_;rintro e w3 ⟨g,hs,rfl,hP,hL,hT3,hO3⟩)
  have hP2:=hP.lower (lo':=w.heap.size+2) (by have:=hx2.size;omega);have HSM:=Zh (J1 l 0 n 1 (by omega) (by omega));obtain⟨s,hsg,hC⟩:=HGD.out w3 g hs _ hP2 hL HSM.out;have zst:=hO3.ext hx2 (show w.heap.size<=w.heap.size+1 by omega);have HC:=Zh hC;have HS:=Zh hsg;have HPx:=Zh hP2;have HLx:=Zh hL;have HTx:=Zh hT3;clear hC hsg hP2 hP hL hT3 hO3
  cases s
  ·go_wp2_with (first
    |(go_at_call 73;refine HC.out.mono ?_;rintro e w4 ⟨rfl,hs4⟩)
    |(go_at_call 72;refine(HDG.out w4 _ 2 (HTx.out.ext Zi) (by omega) (by omega)).mono ?_;rintro e w5 ⟨g5,hs5,rfl,hP5,hL5,hT5,hO5⟩))
   go_ret;exact⟨g5,_,rfl,hP5.mat hL5 (by omega),zbw _ _ _ hn1 hn8,(J1 _ _ _ 2 (by omega) (by omega)).fits hP5.all,hO5.ext Zi (by omega)⟩
  ·go_wp2_with (go_at_call 73;refine HC.out.mono ?_;rintro e w4 ⟨rfl,hs4⟩)
   go_ret;exact⟨g,_,rfl,(HPx.out.ext Zi).mat HLx.out (by omega),HS.out (by simp),HSM.out.fits HPx.out.all,Zi⟩
def zik(w:World)(n:Nat)(e:Ending)(w':World):Prop:=∃a hh A c,e= .returned (.slice A n c)/\Gm n a/\LLLed hh/\hh.length=n/\Rel n a hh/\Mat64 w' A hh/\n<=c/\c<=9223372036854775807/\Step w w'
theorem zpd(hN:Ints w NA te .i8 l)(h8:I8 l)(hl:l.length<=9223372036854775807)(hd0:0<=dim)(hd1:dim<256)(hk0:0<=kind)(hk1:kind<256)(hm1:1<=most)(hm4:most<=4):
  Cq 16 #[.agg #[.int .u8 dim,.int .u8 kind,.slice NA l.length nc,v3],.int .i64 most] w (zik w (1+(dim%most).toNat)):=by
 have zvY:=Int.emod_lt_of_pos dim (show (0:Int)<most by omega);have HG:Hid (∀W,Ext w W->Cq 33 #[.agg #[.int .u8 dim,.int .u8 kind,.slice NA l.length nc,v3],.int .i64 most] W (zii W (1+(dim%most).toNat))):=Zh (fun W e=>zpc (hN.ext e) h8 hl hd0 hd1 hk0 hk1 hm1 (by omega));have hn4:1+(dim%most).toNat<=4:=by omega
 clear hN h8;generalize 1+(dim%most).toNat=n at*
 have HOF:Hid (∀(W0 W:World)(A:Option Addr)(c:Nat)(a:List (List Int)),Gm n a->Mat64 W0 A a->qT a->Ext W0 W->Cq 32 #[.slice A n c] W (RetOwnI W n a)):=Zh (fun W0 W A c a g hM hF e=>by
  have h:=zce (w:=W) (c:=c) hM.a n (by have:=g.n1;have:=g.len;omega) (by have:=g.len;omega) g.n1 (by omega) g.all hF;rwa [g.len]at h)
 go_enter Tryz.func16,Tryz.ntmps16;go_wp2_with (first
  |(go_at_call 33;refine(HG.out _ Zi).mono ?_;rintro e w1 ⟨g,a,rfl,hM,hGm,hF,hs1⟩;have hL:=hGm.len;have HM:=Zh hM;have HGm:=Zh hGm;have HF:=Zh hF;have zu1:=Step.of _ _ (h:=hs1);clear hM hGm hF hs1)
  |(go_at_call 32;refine(HOF.out _ _ _ _ _ HGm.out HM.out HF.out Zi).mono ?_;rintro e w2 ⟨g2,zwZ,c2,rfl,hO2,-,-,hs2⟩;rw[hL];have HMV:=Zh hO2.mat;clear hO2)
  |(go_at_call 31;refine(znW HMV.out HGm.out hn4).mono ?_;rintro e w3 ⟨hh,A1,c1,A2,c2',rfl,hLL,zr7,hRel,hM3,hc1,hc2,hs3⟩))
 go_ret;exact⟨a,hh,A1,c1,rfl,HGm.out,hLL,zr7,hRel,hM3,hc1,hc2,Step.of _ _⟩
theorem zcz(h:ZH m=true){b:Nat}(h4:m.length<=4)(hb:b+2*m.length<=12∨b<=6∨(m.length<=3/\b<=8)):ZX m b<=8000:=by
 have hl:=Qy (qA h).small;have zur:b<=10:=by omega
 have hc:=(zbh h (b:=b) (by omega)).2;have key:∀n,n<4->∀b,b<11->(b+2*(n+1)<=12∨b<=6∨(n+1<=3/\b<=8))->j1 b n<=8000/\zv b<=3000:=by decide+kernel
 have:=key (m.length-1) (by omega) b (by omega) (by omega);rcases hc with h|h<;>omega
def zpe(w:World)(m:List (List Int))(b:Int)(e:Ending)(w':World):Prop:=∃B d L,e= .returned (.tuple #[.slice B (List.length L) d,.int .i64 (ZX m b),.int .i64 0])/\Mat64 w' B L/\L.length<=d/\d<=9223372036854775807/\VecList m b false L/\L.length<=8000/\Step w w'
theorem VecList.zd{b:Int}{e:Bool}{L:List (List Int)}(h:VecList m b e L):∀r∈L,r.length=m.length:=fun r hr=>((h.mem r).1 hr).1
theorem zpf(h:∀y∈l,1<=y)(hx:x∈l):x<=l.sum:=by
 induction l with
 |nil=>simp at hx
 |cons a l ih=>
  have h0:=zdS l (fun y hy=>h y (by simp[hy]));have h1:=h a (by simp);rw[List.sum_cons];rcases List.mem_cons.1 hx with rfl|hx
  ·omega
  ·have:=ih (fun y hy=>h y (by simp[hy])) hx;omega
theorem zpg{b:Nat}{budget:Int}(h:Mat64 w0 A m)(hc:m.length<=c)(hc2:c<=9223372036854775807)(hr:ZH m=true)(h4:m.length<=4)(hb:b+2*m.length<=12∨b<=6∨(m.length<=3/\b<=8))(hbd:ZX m b<=budget)(zxn:budget<=1000000)[hx:Ext w0 w]:
  Cq 34 #[.slice A m.length c,.int .i64 b,.int .i64 budget] w (zpe w m b):=by
 have hR:=qA hr;have hl:=Qy hR.small;have hst:=(zbh hr (b:=b) (by omega)).1;have zu2:=zcz hr h4 hb;have zsD:=hst.last_le (by omega);have hll:=hst.ze;have hsl:=zdS _ hst.one;have zus:=hst.sum;have zr7:=hst.len;have hcl:(Zz m b false).length<=8000:=by omega
 have hmx:∀x∈qu m b,0<=x/\x<=1099511627776:=fun x hx=>by
  have h1:=hst.one x hx;have:x<=(qu m b).sum:=zpf hst.one hx;omega
 have ztO:=hst.spec budget (by omega) zxn;rw[if_pos hbd]at ztO;refine(zgs h.a hc hc2 (zmY hr (by omega) false (by omega)) ztO (by omega) (by omega) (by omega) hmx (by omega)).mono ?_;rintro e w' ⟨B,d,L,he,hM,h1,h2,hp,hw,hs⟩;rw[zus]at he;refine⟨B,d,L,he,hM,h1,h2,zmL hR (by omega) hp hw,?_,hs⟩;have:=hp.length_eq;simp at this;omega
end
section
open Go.ChangeShapes Go.WideShapes Go.ChangeAt Go.RowKit Go.Joins
section
variable {H:Type} {enc:TypeId×Value->H} {P:Program} {W W':World} {sp:Nat->Bool}
theorem zph(hb:Below W.heap.size W W'){a:Addr}(h:W.cell? a=some v):W'.cell? a=some v:=by
 unfold World.cell? at h|-
 split at h
 ·rename_i c t f hc
  have hlt:=zF hc;rw[hb.block _ hlt,hc];exact h
 ·cases h
theorem zil{y:DataW H×List MemPlace}(ht:P.underlying t=some (.slice e))(he:P.underlying e=some (.int k))(hc:P.cellsOf e=1)
  (h:DataW.trod enc P W 0 (fun _=>true) true n t [v]=some y) (hb:Below W.heap.size W W') (hs:∀q∈y.2,sp q.block=true):∃n,DataW.trod enc P W' 0 sp true n t [v]=some y:=by
 rcases open_ints ht he hc h with ⟨h1,h2⟩|⟨a,len,cap,zs,hcs,hb0,hl,hm,hz,hx,zsv,hw⟩
 ·injection h1 with h1
  subst h1 h2;exact field_of_Trod (shut_slice_nil ht) rfl
 ·injection hcs with hcs
  subst hcs hx;rw[if_pos rfl]at hz;refine⟨2,shut_ints 0 ht he hc hb0 hl hm ?_ (fun i hi=>zph hb (zsv i hi)) hw⟩;by_cases h0:cap=0
  ·rw[hz];split<;>omega
  ·have hsa:sp a.block=true:=hs (.cell a.block (a.off+0)) (MemPlace.mem_row.2 ⟨0,by omega,rfl⟩);rw[if_pos hsa];exact hz
theorem zim{y:DataW H×List MemPlace}(ht:P.underlying t=some (.slice e))(he:P.underlying e=some (.int k))(hc:P.cellsOf e=1)
  (h:DataW.trod enc P W 0 (fun _=>true) true n t [v]=some y):∃(A:Option Addr) (c:Nat) (l:List Int) (te:TypeId),v= .slice A l.length c/\l.length<=c/\c<=9223372036854775807/\Ints W A te k l/\∀x∈l,(Lit.int k x).wf=true:=by
 rcases open_ints ht he hc h with ⟨h1,h2⟩|⟨a,len,cap,zs,hcs,hb0,hl,hm,hz,hx,zsv,hw⟩
 ·injection h1 with h1
  exact⟨none,0,[],0,by rw[h1];rfl,Zr,by omega,Ints.nil,by simp⟩
 ·injection hcs with hcs
  rw[if_pos rfl]at hz;have zr7:(zs.take len).length=len:=by rw[List.length_take];omega
  have hm2:cap<=9223372036854775807:=hm;by_cases h0:len=0
  ·refine⟨some a,cap,[],0,by rw[hcs,h0];rfl,by simp,hm2,Ints.nil,by simp⟩
  ·have hc0:=zsv 0 (by omega);have ha:a.add 0=a:=by simp[Addr.add]
   rw[ha]at hc0;unfold World.cell? at hc0;split at hc0
   ·rename_i c te fr hbl
    split at hc0
    ·cases hc0
    rename_i hsp
    obtain⟨ab,ao,asp⟩:=a;have has:asp=none:=by cases asp<;>simp_all
    subst has;refine⟨_,cap,zs.take len,te,by rw[zr7];exact hcs,by omega,hm2,fun _=>⟨ab,ao,c,fr,rfl,hbl,fun j u hu=>?_⟩,fun x hx=>hw x (List.mem_of_mem_take hx)⟩;rw[List.getElem?_map,List.getElem?_take]at hu;split at hu
    ·rename_i hj
     have hcj:=zsv j (by omega);rw[show (⟨ab,ao,none⟩:Addr).add j=⟨ab,ao+j,none⟩ by unfold Addr.add;split<;>simp_all]at hcj;unfold World.cell? at hcj;simp only[hbl]at hcj;rw[Ze (by omega)]at hu;simp at hu;subst hu;have:zs.getD j 0=zs[j]'(by omega):=by simp[List.getD,show j<zs.length by omega]
     rw[this]at hcj;simpa using hcj
    ·cases hu
   ·cases hc0
end
theorem zcA(h:(Lit.int .u8 x).wf=true):0<=x/\x<256:=by
 have e1:IntKind.u8.min=0:=rfl;have e2:IntKind.u8.max=255:=rfl;simp[Lit.wf]at h;omega
theorem zin(h:∀x∈l,(Lit.int .i8 x).wf=true):I8 l:=fun x hx=>by
 have h:=h x hx;have e1:IntKind.i8.min=-128:=rfl;have e2:IntKind.i8.max=127:=rfl;simp[Lit.wf]at h;omega
structure Latt(W:World)(v:Value)where
 dim:Int
 kind:Int
 A:Option Addr
 l:List Int
 c:Nat
 B:Option Addr
 b:List Int
 d:Nat
 te:TypeId
 tb:TypeId
 eq:v= .agg #[.int .u8 dim,.int .u8 kind,.slice A l.length c,.slice B b.length d]
 ints:Ints W A te .i8 l
 i8:I8 l
 len:l.length<=9223372036854775807
 bints:Ints W B tb .i8 b
 bi8:I8 b
 blen:b.length<=9223372036854775807
 dim0:0<=dim
 dim1:dim<256
 kind0:0<=kind
 kind1:kind<256
set_option maxRecDepth 100000 in
theorem zpi{H:Type}{enc:TypeId×Value->H}{W:World}{r:Reach}{b0:Nat}{d:DataW H}{p:List MemPlace}(hv:Value.okWide Tryz.prog W r b0 24 v)(h:DataW.Trod enc Tryz.prog W 0 (fun _=>true) true 24 v d p):
  Nonempty (Latt W v)/\∀(W':World)(sp:Nat->Bool),Below W.heap.size W W'->(∀q∈p,sp q.block=true)->DataW.Trod enc Tryz.prog W' 0 sp true 24 v d p:=by
 obtain⟨v0,v1,v2,v3,y0,y1,y2,y3,n,rfl,rfl,rfl,h0,h1,h2,h3⟩:=open_agg4 Tryz.underlying24 (by kernel_rfl) (by kernel_rfl) hv h;have hu8:Tryz.prog.underlying 5=some (.int .u8):=Tryz.underlying5;have hsl:Tryz.prog.underlying 22=some (.slice 175):=Tryz.underlying22;have hi8:Tryz.prog.underlying 175=some (.int .i8):=Tryz.underlying175;have hce:Tryz.prog.cellsOf 175=1:=by kernel_rfl
 obtain⟨dim,e0,rfl,w0⟩:=DataW.trod_int hu8 h0;obtain⟨kind,e1,rfl,w1⟩:=DataW.trod_int hu8 h1;injection e0 with e0
 injection e1 with e1
 subst e0 e1;refine⟨?_,fun W' sp hb hs=>?_⟩
 ·obtain⟨A,c,l,te,e2,k1,k2,hI,h8⟩:=zim hsl hi8 hce h2;obtain⟨B,c',b,tb,e3,k3,k4,hI',h8'⟩:=zim hsl hi8 hce h3;exact⟨⟨dim,kind,A,l,c,B,b,c',te,tb,by rw[e2,e3],hI,zin h8,by omega,hI',zin h8',by omega,(zcA w0).1,(zcA w0).2,(zcA w1).1,(zcA w1).2⟩⟩
 ·exact shut_agg4 Tryz.underlying24 (by kernel_rfl) (by kernel_rfl) (field_of_Trod (shut_int hu8 w0) rfl) (field_of_Trod (shut_int hu8 w1) rfl) (zil hsl hi8 hce h2 hb (fun q hq=>hs q (by simp[hq]))) (zil hsl hi8 hce h3 hb (fun q hq=>hs q (by simp[hq])))
end
section
set_option maxRecDepth 100000
def io:{L:List Char // Tryz.prog.initOrder.toList=L}:=⟨_,(congrArg String.toList (rfl:Tryz.prog.initOrder=String.ofList _)).trans String.toList_ofList⟩
theorem zpj:Tryz.prog.laysLater=false:=by kernel_rfl
theorem zpk:Tryz.prog.bearsReflect=false:=by kernel_rfl
theorem zpl:Tryz.prog.doorRows=[]:=by kernel_rfl
theorem zew : ∃ rest, behindMainWord (wordsSigns Tryz.prog.initOrder.toList) = "cut".toList :: rest := by
 rw[io.2];exact⟨(behindMainWord (wordsSigns io.1)).tail,by kernel_rfl⟩
theorem zpm {m : Make} {rest : List (List Char)} (h : behindMainWord (wordsSigns P.initOrder.toList) = "cut".toList :: rest) (hm : m = .cut) : (P.make == some m) = true := by
 subst hm;unfold Program.make;rw[h];kernel_rfl
theorem zpn {rest : List (List Char)} (h : behindMainWord (wordsSigns P.initOrder.toList) = "cut".toList :: rest) (hb : b = false) : (b == P.liftsFinal) = true := by
 subst hb;unfold Program.liftsFinal Program.headLifts;rw[h];kernel_rfl
theorem zpo {rest : List (List Char)} (h : behindMainWord (wordsSigns P.initOrder.toList) = "cut".toList :: rest) (h1 : P.laysLater = false) (h2 : P.bearsReflect = false) (h3 : P.doorRows = []) : P.mayEnter = true := by
 unfold Program.mayEnter Program.doorFits;rw[h,h1,h2,h3];kernel_rfl
theorem zpp:Tryz.prog.mayEnter=true:=by
 obtain⟨rest,h⟩:=zew;exact zpo h zpj zpk zpl
theorem zpq{m:Make}(hm:m= .cut):(Tryz.prog.make==some m)=true:=by
 obtain⟨rest,h⟩:=zew;exact zpm h hm
theorem zpr(hb:b=false):(b==Tryz.prog.liftsFinal)=true:=by
 obtain⟨rest,h⟩:=zew;exact zpn h hb
theorem zps:laidOutB Tryz.prog=true:=by kernel_rfl
theorem ZZ{a:Bool}(ha:a=true)(hb:b=true):(a&&b)=true:=by rw[ha,hb];rfl
end
end Go.Proofs.YtpcgfpmiphiacaaGreat
