/- Tr6 Tr7 Tr8 Tr9 Tr10 -/
import Derived.Test.YtjehjkipcaohpaaGreatT19
set_option maxHeartbeats 8000000
set_option linter.unusedVariables false
set_option linter.unusedSimpArgs false
set_option linter.constructorNameAsVariable false
namespace Go.Proofs.YtjehjkipcaohpaaGreat
open Go.RowKit
theorem zkZ:(Tryz.prog.info? 162).map (fun i=>(i.zero,i.size,i.bytes))=some (some (.agg #[.int .u64 0,.int .u64 0]),2,16):=by kernel_rfl
theorem zk0:(Tryz.prog.info? 223).map (fun i=>(i.zero,i.size,i.bytes))=some (some (.agg #[.int .i64 0,.int .i64 0,.int .u64 0,.int .u64 0,.int .i64 0]),5,40):=by kernel_rfl
def QB:Lvl:=⟨0,0,0,0⟩
theorem CMem.start {w w1 W:World} {K bx br bl n mc lc lo:Nat} {mA lA:Option Addr} {D:List Int} {L:List (List Int)} (hx:Ext w W) (hx1:Ext w1 W) (hD:ArrX lo w1 mA 2 (D.map (Value.int .i64))) (hL:Mat64X lo w1 lA L)
  (hK:W.heap[K]? =some (.cells #[.slice mA (n+1) mc,.slice lA n lc,.slice (some ⟨bx,0,none⟩) n n,.slice (some ⟨br,0,none⟩) (n+1) (n+1),.slice (some ⟨bl,0,none⟩) n n,.slice none 0 0] 103 (0,0)))
  (h1:W.heap[bx]? =some (.cells (zV #[.int .i64 0] n) 2 (0,0))) (h2:W.heap[br]? =some (.cells (zV #[.int .u64 0,.int .u64 0] ((n+1)*2)) 162 (0,0))) (h3:W.heap[bl]? =some (.cells (zV #[.int .i64 0,.int .i64 0,.int .u64 0,.int .u64 0,.int .i64 0] (n*5)) 223 (0,0)))
  (hbx:bx<lo∨w1.heap.size<=bx) (wK:w.heap.size<=K) (wx:w.heap.size<=bx) (wr:w.heap.size<=br) (wl:w.heap.size<=bl):
  CMem w W ⟨K,bx,br,bl,W.heap.size,n,mA,lA,mc,lc,W⟩ D L (List.replicate n 0) (List.replicate (n+1) 0) (List.replicate n QB) none 0 [] [] where
 ext:=hx
 kb:=hK
 xr:=by
  have :(zV #[.int .i64 0] n)=((List.replicate n (0:Int)).map (Value.int .i64)).toArray:=by
   apply Array.ext';rw [QP];simp
  rw [this] at h1;exact h1
 xl:=by simp
 rr:=by
  refine ⟨_,h2,by have :=jM #[.int .u64 0,.int .u64 0] ((n+1)*2);simpa using this,fun i v hi=>?_⟩;have hlt:i<n+1:=by have :=(Zg.1 hi).1;simpa using this
  obtain rfl:0=v:=by rw [List.getElem?_replicate,if_pos hlt] at hi;injection hi
  have a:=Jc #[.int .u64 0,.int .u64 0] ((n+1)*2) (i*2) (by omega) (by simp);have b:=Jc #[.int .u64 0,.int .u64 0] ((n+1)*2) (i*2+1) (by omega) (by simp);rw [Array.getElem?_toList] at a b;rw [a,b];have e1:i*2%2=0:=by omega
  have e2:(i*2+1)%2=1:=by omega
  constructor<;>simp [e1,e2,zq,zm]
 rl:=by simp
 lr:=by
  refine ⟨_,h3,by have :=jM #[.int .i64 0,.int .i64 0,.int .u64 0,.int .u64 0,.int .i64 0] (n*5);simpa using this,fun i v hi=>?_⟩;have hlt:i<n:=by have :=(Zg.1 hi).1;simpa using this
  obtain rfl:QB=v:=by rw [List.getElem?_replicate,if_pos hlt] at hi;injection hi
  have g:=fun j (hj:j<5)=>Jc #[.int .i64 0,.int .i64 0,.int .u64 0,.int .u64 0,.int .i64 0] (n*5) (i*5+j) (by omega) (by simp)
  have e:∀j,j<5->(i*5+j)%5=j:=fun j hj=>by omega
  have a0:=g 0 (by omega);have a1:=g 1 (by omega);have a2:=g 2 (by omega);have a3:=g 3 (by omega);have a4:=g 4 (by omega);rw [Array.getElem?_toList] at a0 a1 a2 a3 a4;rw [Nat.add_zero] at a0;rw [a0,a1,a2,a3,a4];have e0:i*5%5=0:=by omega
  refine ⟨?_,?_,?_,?_,?_⟩<;>simp [e0,e,zq,zm,QB]
 ll:=by simp
 fv:=Mat64X.fv hD hL hx1 fun b b1 b2=>⟨by show b≠bx;omega,Nat.lt_of_lt_of_le b2 hx1.size⟩
 ls:=LOwn.nil _ _
 sz:=Zr
 wK:=wK
 wx:=wx
 wr:=wr
 wl:=wl
 bK:=zA hK
 bx:=zA h1
 br:=zA h2
 bl:=zA h3
 kp:=Keeps.refl _ _
def zk1 (w:World) (za:Int) (n:Nat) (D:List Int) (L:List (List Int)) (e:Ending) (W:World):Prop:=∃y:Lay,y.n=n/\e= .returned (.pointer (some ⟨y.K,0,none⟩))/\CMem w W y D L (List.replicate n 0) ((List.replicate (n+1) 0).set n (za*vD D n)) (List.replicate n QB) none 0 [] []
set_option maxRecDepth 100000 in
theorem zk2 {w0 w:World} {A:Option Addr} {c:Nat} {m:List (List Int)} {za:Int} (h:Mat64 w0 A m) (hf:FormOK m) (h64:Jo m) (hb0:0<=za) (hb1:za<=4611686018427387904) [hx:Ext w0 w]:
  Calls Tryz.prog 67 #[.slice A m.length c,.int .i64 za] w (zk1 w za m.length (ze m m.length) (zh m m.length)):=by
 have hN:=hf.num 0 (by omega) (by omega);have h8:=hN.n8;have h1:=hf.len1;have hnf:=fun W (hh:Ext w0 W)=>zfw (w:=W) (c:=c) h hf.len1 h8 hf.all hf.fits hf.elim h64
 have hDl:(ze m m.length).length=m.length+1:=JM m _;have hLl:(zh m m.length).length=m.length:=by simp [zh]
 obtain ⟨D,hD⟩:∃D,D=ze m m.length:=⟨_,rfl⟩;obtain ⟨L,hL⟩:∃L,L=zh m m.length:=⟨_,rfl⟩;rw [<-hD,<-hL] at hnf hN |-
 rw [<-hD] at hDl;rw [<-hL] at hLl;unfold zcO at hnf;rw [hDl,hLl] at hnf;obtain ⟨n,hn⟩:∃n,n=m.length:=⟨_,rfl⟩;rw [<-hn] at hnf hN hDl hLl h8 h1 |-
 obtain ⟨dn,hdn⟩:∃dn:Nat,vD D n=dn:=⟨(vD D n).toNat,by have :=hN.d1 n (by omega);omega⟩;have zuk:=hN.d1 n (by omega);have zul:=hN.d2 n (by omega);rw [hdn] at zuk zul;have hdi:D[n]? =some (dn:Int):=by rw [<-hdn];unfold vD;simp [show n<D.length by omega]
 have hti:=fun W=>zft (w:=W) za dn hb0 (by omega) (by omega) (by
  have :za*(dn:Int)<=4611686018427387904*65535:=Int.mul_le_mul hb1 (by omega) (by omega) (by omega);omega)
 rw [zcN hb0 (by omega)] at hti;obtain ⟨p,hp⟩:∃p,za*(dn:Int)=p:=⟨_,rfl⟩;rw [hp] at hti;unfold Zs at hti;have HTI:=Zh hti;have HDN:=Zh hdn;have HDI:=Zh hdi;have HNF:=Zh hnf;have HDL:=Zh hDl;have HLL:=Zh hLl;have zvv:=ZL (P:=Tryz.prog) Tryz.underlying37 qP (by omega) (n:Int) (by omega) (by omega);have zq8:=ZL (P:=Tryz.prog) Tryz.underlying100 zkZ (by omega) ((n:Int)+1) (by omega) (by omega);have zvw:=ZL (P:=Tryz.prog) Tryz.underlying101 zk0 (by omega) (n:Int) (by omega) (by omega)
 have e1:IntKind.i64.wrap ((n:Int)+1)=(n:Int)+1:=IntWalk.i64_in _ (by omega);clear hnf hD hL hn hDl hLl hf h64 hti hdn hdi;go_enter Tryz.func67,Tryz.ntmps67;go_upto_region 2 with fail
 go_cut [6] (fun s6 wx=>∃y:Lay,y.n=n/\s6= .pointer (some ⟨y.K,0,none⟩)/\CMem w wx y D L (List.replicate n 0) (List.replicate (n+1) 0) (List.replicate n QB) none 0 [] [])
 case first=>
  go_region_with (go_at_call 113;refine (HNF.out _ Zi).mono ?_;rintro e w1 ⟨mA,mc,lA,lc,rfl,hD,hL,d1,d2,d3,d4,hs1⟩)
  all_goals (
   have hsz:=hs1.size;go_wp2_with fail
   go_meet
   first
    |refine ⟨⟨w1.heap.size,_,_,_,_,n,mA,lA,mc,lc,_⟩,rfl,rfl,CMem.start Zi (w1:=w1) Zi hD hL HasBlk.eq HasBlk.eq HasBlk.eq HasBlk.eq ?_ ?_ ?_ ?_ ?_⟩
    |refine ⟨⟨_,_,_,_,_,n,mA,lA,mc,lc,_⟩,rfl,rfl,CMem.start Zi (w1:=w1) Zi hD hL HasBlk.eq HasBlk.eq HasBlk.eq HasBlk.eq ?_ ?_ ?_ ?_ ?_⟩
   all_goals (simp at hsz |-<;>omega))
 case rest=>
  obtain ⟨y,hyn,rfl,hM⟩:=hcut;obtain ⟨K,bx,br,bl,zd,n',mA,lA,mc,lc,gw⟩:=y;obtain rfl:n'=n:=hyn;have hkb:=hM.kb;unfold Lay.obj at hkb;have k0:wc.cell? ⟨K,0,none⟩=some (.slice mA (n'+1) mc):=by simp [World.cell?,hkb]
  have k3:wc.cell? ⟨K,3,none⟩=some (.slice (some ⟨br,0,none⟩) (n'+1) (n'+1)):=by simp [World.cell?,hkb]
  have hKl:K<wc.heap.size:=zA hkb;obtain ⟨bm,om,-,rfl,-⟩:=hM.fv.ints.at_ (i:=n') (by have :=HDL.out;omega);obtain ⟨m3,m4⟩:=Qg hM.fv.ints HDI.out;obtain ⟨r1,r2,r3⟩:=hM.rr.cell (i:=n') (v:=0) (by simp);have r4:=hM.rr.frozen (n'*2);have r5:=hM.rr.frozen (n'*2+1);have HM:=Zh hM;have hu:IntKind.u64.wrap za=za:=by rw [IntKind.wrap_u64];omega
  have oK:Old K wc:=⟨hKl⟩;have oR:Old br wc:=⟨r3⟩;have oB:Old bm wc:=⟨m4⟩;obtain ⟨ph,hph⟩:∃ph,zq p=ph:=⟨_,rfl⟩;obtain ⟨pl,hpl⟩:∃pl,zm p=pl:=⟨_,rfl⟩;rw [hph,hpl] at HTI;have HPH:=Zh hph;have HPL:=Zh hpl;have HPP:=Zh hp;clear hph hpl hp;clear hM hkb;go_wp2_with fail
  have zss:(n':Int)<(n':Int)+1:=by omega
  go_region_law ((go_simp;go_at_call 114;refine (HTI.out _).mono ?_;rintro e w2 ⟨rfl,hs2⟩))
  all_goals (
   have hMr:=(HM.out.to (W':=w2) Zi).setR n' p;simp only [] at hMr;rw [HPH.out,HPL.out] at hMr;have HMR:=Zh hMr;clear hMr;go_wp2_with fail
   go_ret;refine ⟨⟨K,bx,br,bl,zd,n',some ⟨bm,om,none⟩,lA,mc,lc,gw⟩,rfl,rfl,?_⟩;rw [HDN.out,HPP.out];exact HMR.out)
structure LevN (D:List Int) (L:List (List Int)) (n k:Nat) (x:List Int) (r:Int) (dk d:Int) (lam:List Int):Prop where
 kn:k<n
 n8:n<=8
 e0:D[k]? =some dk
 e1:D[k+1]? =some d
 el:L[k]? =some lam
 ll:lam.length=n-1-k
 bl:∀a∈lam,-32768<=a/\a<=32768
 bx:∀y∈x,-1099511627776<=y/\y<=1099511627776
 r0:0<=r
 r1:r*dk<18446744073709551616
 d0:1<=dk
 d1:dk<65536
 c0:1<=d
 c1:d<65536
theorem zbq {d sh x:Int} (c0:1<=d) (c1:d<65536) (hs:-288230376151711744<=sh/\sh<=288230376151711744) (hx:-1099511627778<=x/\x<=1099511627778):JR d sh x:=by
 have :=qB (a:=d) (b:=x) (A:=65535) (B:=1099511627778) (by omega) (by omega) (by omega) (by omega);unfold JR;omega
theorem zbr {n k:Nat} {lam x:List Int} (h8:n<=8) (hl:lam.length=n-1-k) (hb:∀a∈lam,-32768<=a/\a<=32768) (bx:∀y∈x,-1099511627776<=y/\y<=1099511627776):-288230376151711744<=zC lam (x.drop (k+1))/\zC lam (x.drop (k+1))<=288230376151711744:=by
 have :=Jg (A:=32768) (B:=1099511627776) (by omega) (by omega) lam (x.drop (k+1)) hb (fun z hz=>bx z (List.mem_of_mem_drop hz));omega
theorem CMem.kc {w W:World} {y:Lay} {D:List Int} {L:List (List Int)} {x rest:List Int} {lv:List Lvl} {lB:Option Addr} {c:Nat} {l:List (List Int)} {vs:List Value} (h:CMem w W y D L x rest lv lB c l vs):
  W.cell? ⟨y.K,0,none⟩=some (.slice y.mA (y.n+1) y.mc)/\W.cell? ⟨y.K,1,none⟩=some (.slice y.lA y.n y.lc)/\W.cell? ⟨y.K,2,none⟩=some (.slice (some ⟨y.bx,0,none⟩) y.n y.n)/\W.cell? ⟨y.K,3,none⟩=some (.slice (some ⟨y.br,0,none⟩) (y.n+1) (y.n+1))/\W.cell? ⟨y.K,4,none⟩=some (.slice (some ⟨y.bl,0,none⟩) y.n y.n)/\W.cell? ⟨y.K,5,none⟩=some (.slice lB l.length c)/\W.frozen? ⟨y.K,5,none⟩=false/\y.K<W.heap.size:=by
 have hkb:=h.kb;unfold Lay.obj at hkb;refine ⟨?_,?_,?_,?_,?_,?_,?_,zA hkb⟩<;>simp [World.cell?,World.frozen?,hkb]
theorem LvAt.five {w:World} {g i:Nat} {l:List Lvl} {v:Lvl} (h:LRow w g l) (hi:l[i]? =some v):w.cell? ⟨g,i*5,none⟩=some (.int .i64 v.mi)/\w.cell? ⟨g,i*5+1,none⟩=some (.int .i64 v.sh)/\w.cell? ⟨g,i*5+2,none⟩=some (.int .u64 (zq v.lim))/\w.cell? ⟨g,i*5+3,none⟩=some (.int .u64 (zm v.lim))/\w.cell? ⟨g,i*5+4,none⟩=some (.int .i64 v.hi)/\g<w.heap.size:=by
 obtain ⟨a,b⟩:=h.at_ hi;exact ⟨a.c0,a.c1,a.c2,a.c3,b,a.lt⟩
theorem zcP (w:World):Ext w w.drew:=Zi
theorem zaF {P:Program} {fn:Func} {R:Ending->World->Prop} {a:Act} {w:World} {chain:List PanicEntry} (hd:a.defers=[]) (hR:R (.panicked chain) w):bodyPost P fn R (.panic chain) a w:=⟨hd,hR⟩
def zk3 (w:World) (y:Lay) (D:List Int) (L:List (List Int)) (x rest:List Int) (lv:List Lvl) (lB:Option Addr) (c:Nat) (l:List (List Int)) (vs:List Value) (ok:Bool) (e:Ending) (W':World):Prop:=
 CMem w W' y D L x rest lv lB c l vs/\((ok=true/\e= .returned (.tuple #[]))∨(ok=false/\∃u pv,e= .panicked [{v:= .iface u pv,recovered:=false}]))
set_option maxRecDepth 100000 in
theorem zk4 {w W:World} {y:Lay} {D:List Int} {L:List (List Int)} {x rest:List Int} {lv:List Lvl} {lB:Option Addr} {c:Nat} {l:List (List Int)} {vs:List Value} {k:Nat} {r dk d lo hi:Int} {lam:List Int} (hM:CMem w W y D L x rest lv lB c l vs) (hv:LevN D L y.n k x r dk d lam) (hr:rest[k+1]? =some r)
  (l0:-9223372036854775808<=lo) (l1:lo<=9223372036854775807) (k0:-9223372036854775808<=hi) (k1:hi<=9223372036854775807):
  Calls Tryz.prog 176 #[.pointer (some ⟨y.K,0,none⟩),.int .i64 k,.agg #[.int .i64 lo,.int .i64 hi]] W (zk3 w y D L x rest (lv.set k ⟨d,zC lam (x.drop (k+1)),r*dk,hi⟩) lB c l vs (Z2 d (zC lam (x.drop (k+1))) (r*dk) lo hi)):=by
 have hsb:=zbr hv.n8 hv.ll hv.bl hv.bx;have hkn:=hv.kn;have hn8:=hv.n8;obtain ⟨K,bx,br,bl,zd,n,mA,lA,mc,lc,gw⟩:=y;simp only at hkn hn8 |-
 obtain ⟨v0,hv0⟩:∃v0,lv[k]? =some v0:=⟨_,Ze (by have :=hM.ll;simp only at this;omega)⟩;have zrY:k<lv.length:=(Zg.1 hv0).1;have zst:=hM.ll;simp only at zst;obtain ⟨bm,om,-,rfl,-⟩:=hM.fv.ints.at_ (i:=k+1) (by have :=(Zg.1 hv.e1).1;omega);obtain ⟨sh,hsh⟩:∃sh,zC lam (x.drop (k+1))=sh:=⟨_,rfl⟩;obtain ⟨lim,zqU⟩:∃lim,r*dk=lim:=⟨_,rfl⟩;have zrZ:=hv.r1;have zum:0<=r*dk:=Int.mul_nonneg hv.r0 (by have :=hv.d0;omega)
 rw [hsh,zqU];rw [hsh] at hsb;rw [zqU] at zrZ zum;have HV:=Zh hv;have HR:=Zh hr;have HSH:=Zh hsh;have zpC:=Zh zqU;have HV0:=Zh hv0;have HLN:=Zh zst;have hxW:Ext W (W.alloc (.cells #[.int .i64 lo,.int .i64 hi] 64)):=Zi;have hM0:=hM.to hxW;have zqH:=qj W (W.alloc (.cells #[.int .i64 lo,.int .i64 hi] 64)) (.int .i64 lo) (.int .i64 hi) 64;obtain ⟨ub,hub⟩:∃ub,ub=W.heap.size:=⟨_,rfl⟩;clear hM hv hr hsh zqU hv0 zst
 go_enter Tryz.func176,Tryz.ntmps176;go_upto_region 1 with fail
 rw [<-hub] at zqH |-
 generalize W.alloc (.cells #[.int .i64 lo,.int .i64 hi] 64)=W0 at hM0 zqH |-
 obtain ⟨q0,q1,q2,q3,q4,q5,q6,q7⟩:=hM0.kc;simp only at q0 q1 q2 q3 q4 q5 q6 q7;obtain ⟨v1,v2,v3,v4,v5,v6⟩:=LvAt.five hM0.lr HV0.out;simp only at v1 v2 v3 v4 v5 v6;have fz:=hM0.lr.frozen (k*5);simp only at fz;obtain ⟨m1,m2⟩:=Qg hM0.fv.ints HV.out.e1;have HM0:=Zh hM0;have HBX:=Zh zqH;clear hM0 zqH hub hxW;go_upto_region 3 with fail
 have hM1:=HM0.out.setL (k*5) (.int .i64 d) (HM0.out.lr.putMi HV0.out d) (by rw [List.length_set];exact HLN.out);simp only at hM1;have hb1:=Zj (p:=⟨bl,k*5,none⟩) HBX.out.1 (show ub≠bl from zW HBX.out.1 (Classical.choose_spec HM0.out.lr).1 (by decide)) (.int .i64 d);have HS1:Hid ((lv.set k {v0 with mi:=d})[k]? =some {v0 with mi:=d}):=Zh (by rw [List.getElem?_set_self zrY]);generalize W0.setCell ⟨bl,k*5,none⟩ (.int .i64 d)=W1 at hM1 hb1 |-
 clear q0 q1 q2 q3 q4 q5 q6 q7 v1 v2 v3 v4 v5 v6 fz m1 m2 HM0 HBX;obtain ⟨q0,q1,q2,q3,q4,q5,q6,q7⟩:=hM1.kc;simp only at q0 q1 q2 q3 q4 q5 q6 q7;obtain ⟨v1,v2,v3,v4,v5,v6⟩:=LvAt.five hM1.lr HS1.out;simp only at v1 v2 v3 v4 v5 v6;have fz:=hM1.lr.frozen (k*5+1);simp only at fz;have zq0:=fun W' (hh:Ext W1 W')=>zkX (w:=W') q1 q7 hM1.fv.mat HV.out.el hM1.xr hM1.xl hkn hn8 HV.out.ll HV.out.bl HV.out.bx
 rw [HSH.out] at zq0;have HSC:=Zh zq0;have HM1:=Zh hM1;have HB1:=Zh hb1;clear zq0 hM1 hb1;go_region_law ((go_simp;go_at_call 119;refine (HSC.out _ Zi).mono ?_;rintro e w2 ⟨rfl,rfl⟩))
 have hM2:=(HM1.out.setL (k*5+1) (.int .i64 sh) (HM1.out.lr.putSh HS1.out sh) (by rw [List.length_set,List.length_set];exact HLN.out)).to (zcP _);simp only [List.set_set] at hM2;have hb2:=zg (zcP _) (Zj (p:=⟨bl,k*5+1,none⟩) HB1.out (show ub≠bl from zW HB1.out (Classical.choose_spec HM1.out.lr).1 (by decide)) (.int .i64 sh));have HS2:Hid ((lv.set k {v0 with mi:=d,sh:=sh})[k]? =some {v0 with mi:=d,sh:=sh}):=Zh (by rw [List.getElem?_set_self zrY])
 generalize (W1.setCell ⟨bl,k*5+1,none⟩ (.int .i64 sh)).drew=W2 at hM2 hb2 |-
 clear q0 q1 q2 q3 q4 q5 q6 q7 v1 v2 v3 v4 v5 v6 fz HM1 HB1 HSC;go_upto_region 4 with fail
 obtain ⟨q0,q1,q2,q3,q4,q5,q6,q7⟩:=hM2.kc;simp only at q0 q1 q2 q3 q4 q5 q6 q7;obtain ⟨v1,v2,v3,v4,v5,v6⟩:=LvAt.five hM2.lr HS2.out;simp only at v1 v2 v3 v4 v5 v6;have fz:=hM2.lr.frozen (k*5+2);have fz':=hM2.lr.frozen (k*5+3);simp only at fz fz';obtain ⟨m1,m2⟩:=Qg hM2.fv.ints HV.out.e0;obtain ⟨r1,r2,r3⟩:=hM2.rr.cell HR.out;simp only at r1 r2 r3;obtain ⟨dkn,zrE⟩:∃dkn:Nat,dk=dkn:=⟨dk.toNat,by have :=HV.out.d0;omega⟩
 rw [zrE] at m1;have hti:=fun W'=>zft (w:=W') r dkn HV.out.r0 (by have :=HV.out.d0;omega) (by have :=HV.out.d1;omega) (by rw [<-zrE,zpC.out];omega)
 rw [<-zrE,zpC.out,zrE] at hti;unfold Zs at hti;obtain ⟨rh,hrh⟩:∃rh,zq r=rh:=⟨_,rfl⟩;obtain ⟨rl,hrl⟩:∃rl,zm r=rl:=⟨_,rfl⟩;obtain ⟨ph,hph⟩:∃ph,zq lim=ph:=⟨_,rfl⟩;obtain ⟨pl,hpl⟩:∃pl,zm lim=pl:=⟨_,rfl⟩;rw [hrh,hrl,hph,hpl] at hti;rw [hrh] at r1;rw [hrl] at r2;have HTI:=Zh hti;have HPH:=Zh hph;have HPL:=Zh hpl;have HM2:=Zh hM2;have HB2:=Zh hb2;have zss:(k:Int)<(n:Int)+1:=by omega
 have zqL:(k:Int)+1<(n:Int)+1:=by omega
 have hge:(0:Int)<=(k:Int)+1:=by omega
 have hto:((k:Int)+1).toNat=k+1:=by omega
 have e1:IntKind.i64.wrap ((k:Int)+1)=(k:Int)+1:=IntWalk.i64_in _ (by omega);have oB:Old bl W2:=⟨v6⟩;clear hti hM2 hb2 hrh hrl hph hpl zrE;go_region_law ((go_simp;go_at_call 114;refine (HTI.out _).mono ?_;rintro e w2 ⟨rfl,hs2⟩))
 all_goals (
  have hM2':=HM2.out.to (W':=w2) Zi;have hM3:=hM2'.setL2 (k*5+2) (k*5+3) (.int .u64 (zq lim)) (.int .u64 (zm lim)) (hM2'.lr.putLim HS2.out lim) (by rw [List.length_set,List.length_set];exact HLN.out);have hne:ub≠bl:=zW HB2.out (Classical.choose_spec HM2.out.lr).1 (by decide);have hb3:=Zj (p:=⟨bl,k*5+3,none⟩) (Zj (p:=⟨bl,k*5+2,none⟩) (zg (Zi:Ext W2 w2) HB2.out) hne (.int .u64 (zq lim))) hne (.int .u64 (zm lim))
  simp only [List.set_set] at hM3;rw [HPH.out,HPL.out] at hM3 hb3;have HS3:Hid ((lv.set k {v0 with mi:=d,sh:=sh,lim:=lim})[k]? =some {v0 with mi:=d,sh:=sh,lim:=lim}):=Zh (by rw [List.getElem?_set_self zrY]);generalize (w2.setCell ⟨bl,k*5+2,none⟩ (.int .u64 ph)).setCell ⟨bl,k*5+3,none⟩ (.int .u64 pl)=W3 at hM3 hb3 |-
  clear hM2' q0 q1 q2 q3 q4 q5 q6 q7 v1 v2 v3 v4 v5 v6 fz fz' HM2 HB2 HTI m1 m2 r1 r2 r3 zss zqL hge hto e1 oB;obtain ⟨v1,v2,v3,v4,v5,v6⟩:=LvAt.five hM3.lr HS3.out;simp only at v1 v2 v3 v4 v5 v6;have fz:=hM3.lr.frozen (k*5+4);simp only at fz;obtain ⟨b1,b2,b3,b4,b5⟩:=zK hb3;have HM3:=Zh hM3;have HB3:=Zh hb3;clear hM3 hb3;go_upto_region 6 with fail
  have hM4:=HM3.out.setL (k*5+4) (.int .i64 hi) (HM3.out.lr.putHi HS3.out hi) (by rw [List.length_set,List.length_set];exact HLN.out);have hb4:=Zj (p:=⟨bl,k*5+4,none⟩) HB3.out hne (.int .i64 hi);simp only [List.set_set] at hM4;have HS4:Hid ((lv.set k {mi:=d,sh:=sh,lim:=lim,hi:=hi})[k]? =some {mi:=d,sh:=sh,lim:=lim,hi:=hi}):=Zh (by rw [List.getElem?_set_self zrY]);generalize W3.setCell ⟨bl,k*5+4,none⟩ (.int .i64 hi)=W4 at hM4 hb4 |-
  clear v1 v2 v3 v4 v5 v6 fz HM3 HB3 b1 b2 b3 b4 b5;obtain ⟨b1,b2,b3,b4,b5⟩:=zK hb4;have hLv:=(hM4.lr.at_ HS4.out).1;simp only at hLv;have hac:=fun W' (hh:Ext W4 W')=>zkW (w:=W') (lo:=lo) (hi:=hi) hLv (fun z z1 z2=>zbq HV.out.c0 HV.out.c1 hsb ⟨z1,z2⟩) l0 l1 k0 k1
  have HAC:=Zh hac;have HM4:=Zh hM4;clear hac hM4 hb4;obtain ⟨ok,hok⟩:∃ok,Z2 d sh lim lo hi=ok:=⟨_,rfl⟩;rw [hok] at HAC;have HOK:=Zh hok;clear hok
  cases ok
  ·go_wp2_with (go_at_call 215;refine (HAC.out _ Zi).mono ?_;rintro e w5 ⟨rfl,hs5⟩)
   exact zaF rfl ⟨HM4.out.to Zi,.inr ⟨HOK.out,_,_,rfl⟩⟩
  ·go_wp2_with (go_at_call 215;refine (HAC.out _ Zi).mono ?_;rintro e w5 ⟨rfl,hs5⟩)
   go_end0
   exact ⟨HM4.out.to Zi,.inl ⟨HOK.out,rfl⟩⟩)
def zk5 (w:World) (y:Lay) (D:List Int) (L:List (List Int)) (x rest:List Int) (lv:List Lvl) (lB:Option Addr) (c:Nat) (l:List (List Int)) (vs:List Value) (e:Ending) (W':World):Prop:=
 e= .returned (.tuple #[])/\CMem w W' y D L x rest lv lB c l vs
set_option maxRecDepth 100000 in
theorem zcQ {w W:World} {y:Lay} {D:List Int} {L:List (List Int)} {x rest:List Int} {lv:List Lvl} {lB:Option Addr} {c:Nat} {l:List (List Int)} {vs:List Value} {k:Nat} {v:Lvl} {xv u:Int} (hM:CMem w W y D L x rest lv lB c l vs) (hk:k<y.n) (h8:y.n<=8) (hv:lv[k]? =some v) (hf:JR v.mi v.sh xv) (hu:zM v.mi v.sh xv=u) (hm1:1<=v.mi) (hm2:v.mi<65536) (hl0:u*u<=v.lim) (hl1:v.lim<18446744073709551616):
  Calls Tryz.prog 177 #[.pointer (some ⟨y.K,0,none⟩),.int .i64 k,.int .i64 xv] W (zk5 w y D L (x.set k xv) (rest.set k ((v.lim-u*u) / v.mi)) lv lB c l vs):=by
 obtain ⟨K,bx,br,bl,zd,n,mA,lA,mc,lc,gw⟩:=y;simp only at hk h8 |-
 have hub:-4611686018427387904<=u/\u<=4611686018427387904:=by rw [<-hu];exact ⟨hf.2.2.1,hf.2.2.2⟩
 have hu0:0<=u*u:=(Int.le_total 0 u).elim (fun h=>Int.mul_nonneg h h) (fun h=>Int.mul_nonneg_of_nonpos_of_nonpos h h);obtain ⟨q0,q1,q2,q3,q4,q5,q6,q7⟩:=hM.kc;simp only at q0 q1 q2 q3 q4 q5 q6 q7;obtain ⟨y0,-,c0⟩:=hM.xr.cell (i:=k) (by have :=hM.xl;simp only at this;omega);have cf:=hM.xr.frozen k;simp only at c0 cf;have HM:=Zh hM;have HV:=Zh hv;have HU:=Zh hu;clear hM hv hu;go_enter Tryz.func177,Tryz.ntmps177
 go_upto_region 2 with fail
 have hM1:=HM.out.setX k xv;simp only at hM1;generalize W.setCell ⟨bx,k,none⟩ (.int .i64 xv)=W1 at hM1 |-
 clear q0 q1 q2 q3 q4 q5 q6 q7 c0 cf HM y0;obtain ⟨q0,q1,q2,q3,q4,q5,q6,q7⟩:=hM1.kc;simp only at q0 q1 q2 q3 q4 q5 q6 q7;obtain ⟨v1,v2,v3,v4,v5,v6⟩:=LvAt.five hM1.lr HV.out;simp only at v1 v2 v3 v4 v5 v6;have hLv:=(hM1.lr.at_ HV.out).1;simp only at hLv;obtain ⟨rk,hrk⟩:∃rk,rest[k]? =some rk:=⟨_,Ze (by have :=hM1.rl;simp only at this;omega)⟩;obtain ⟨r1,r2,r3⟩:=hM1.rr.cell hrk;have r4:=hM1.rr.frozen (k*2)
 have r5:=hM1.rr.frozen (k*2+1);simp only at r1 r2 r3 r4 r5;have hcu:=fun W' (hh:Ext W1 W')=>zbo (w:=W') hLv hf
 rw [HU.out] at hcu;have hcs:=fun W'=>zfv (w:=W') u hub.1 hub.2
 have hcm:=fun W'=>zkT (w:=W') v.lim (u*u) hu0 hl0 (by omega)
 have hco:=fun W'=>zkU (w:=W') (v.lim-u*u) v.mi (by omega) (by omega) hm1 (by omega)
 obtain ⟨p,hp⟩:∃p,(v.lim-u*u) / v.mi=p:=⟨_,rfl⟩;rw [hp] at hco |-
 unfold Zs at hcs hcm hco;obtain ⟨ph,hph⟩:∃ph,zq p=ph:=⟨_,rfl⟩;obtain ⟨pl,hpl⟩:∃pl,zm p=pl:=⟨_,rfl⟩;rw [hph,hpl] at hco;have HCU:=Zh hcu;have HCS:=Zh hcs;have HCM:=Zh hcm;have HCO:=Zh hco;generalize zq (v.lim-u*u)=a1 at HCM HCO;generalize zm (v.lim-u*u)=a2 at HCM HCO;generalize zq (u*u)=a3 at HCM HCS;generalize zm (u*u)=a4 at HCM HCS;obtain ⟨a5,ha5⟩:∃a5,zq v.lim=a5:=⟨_,rfl⟩;obtain ⟨a6,ha6⟩:∃a6,zm v.lim=a6:=⟨_,rfl⟩
 rw [ha5,ha6] at HCM;rw [ha5] at v3;rw [ha6] at v4;have HPH:=Zh hph;have HPL:=Zh hpl;have HM1:=Zh hM1;have zss:(k:Int)<(n:Int)+1:=by omega
 obtain ⟨mi,hmi⟩:∃mi,v.mi=mi:=⟨_,rfl⟩;rw [hmi] at HCO v1;have aK:Apart K br:=⟨zW HM1.out.kb (Classical.choose_spec HM1.out.rr).1 (by decide)⟩;have aL:Apart bl br:=⟨zW (Classical.choose_spec HM1.out.lr).1 (Classical.choose_spec HM1.out.rr).1 (by decide)⟩;have oL:Old bl W1:=⟨v6⟩;have oR:Old br W1:=⟨r3⟩;have oK:Old K W1:=⟨q7⟩;have hc:∀W',Ext W1 W'->W'.cell? ⟨K,3,none⟩=some (.slice (some ⟨br,0,none⟩) (n+1) (n+1))/\W'.cell? ⟨bl,k*5,none⟩=some (.int .i64 mi)/\W'.cell? ⟨bl,k*5+2,none⟩=some (.int .u64 a5)/\W'.cell? ⟨bl,k*5+3,none⟩=some (.int .u64 a6):=fun W' hh=>by simp only [zi W1];exact ⟨q3,v1,v3,v4⟩
 have HCC:=Zh hc;clear hcu hcs hcm hco hM1 hph hpl hp hc ha5 ha6 hmi hLv hrk;go_region_held3 (fun w'=>w'.cell? ⟨K,3,none⟩=some (.slice (some ⟨br,0,none⟩) (n+1) (n+1))/\w'.cell? ⟨bl,k*5,none⟩=some (.int .i64 mi)/\w'.cell? ⟨bl,k*5+2,none⟩=some (.int .u64 a5)/\w'.cell? ⟨bl,k*5+3,none⟩=some (.int .u64 a6)) (first |exact HCC.out _ Zi |(simp only [zee,zed];exact HCC.out _ Zi))
  (first
   |(go_at_call 218;refine (HCU.out _ Zi).mono ?_;rintro e w2 ⟨rfl,n2,rfl⟩)
   |(go_at_call 217;refine (HCS.out _).mono ?_;rintro e w3 ⟨rfl,hs3⟩)
   |(go_at_call 216;refine (HCM.out _).mono ?_;rintro e w4 ⟨rfl,hs4⟩)
   |(go_at_call 219;refine (HCO.out _).mono ?_;rintro e w5 ⟨rfl,hs5⟩))
 all_goals (
  have hMr:=(HM1.out.to (W':=w5) Zi).setR k p;simp only at hMr;rw [HPH.out,HPL.out] at hMr;go_end0
  exact ⟨rfl,hMr⟩)
theorem CMem.snoc {w W W3 w4:World} {y:Lay} {D:List Int} {L:List (List Int)} {x rest:List Int} {lv:List Lvl} {lB:Option Addr} {c:Nat} {l:List (List Int)} {vs:List Value} (h:CMem w W y D L x rest lv lB c l vs) (hx:Ext W W3) {A4 B:Option Addr} {d4 d:Nat} {r:List Int} (hg:Grow y.zd 37 W3 w4) (ho:Own w4 y.zd 37 1 A4 (l.length+1) d4 (vs++[.slice B r.length d])) (hr:ArrX y.zd W3 B 2 (r.map (Value.int .i64))) (h1:r.length<=d) (h2:d<=9223372036854775807):
  CMem w (w4.setCell ⟨y.K,5,none⟩ (.slice A4 (l.length+1) d4)) y D L x rest lv A4 d4 (l++[r]) (vs++[.slice B r.length d]):=by
 obtain ⟨cr,hr',-⟩:=h.rr;obtain ⟨cl,hl,-⟩:=h.lr;have hxx:=h.xr.heapE;have hsz:=h.sz;have hk0:∀b,b<y.zd->w4.heap[b]? =W.heap[b]? :=fun b hb=>(hg.below.block b hb).trans (hx.below.block b (by omega))
 have hk:∀b,b<y.zd->b≠y.K->(w4.setCell ⟨y.K,5,none⟩ (.slice A4 (l.length+1) d4)).heap[b]? =W.heap[b]? :=fun b hb hne=>(Below.heap_setCell w4 ⟨y.K,5,none⟩ _ b hne).trans (hk0 b hb)
 exact {
  ext:=(hg.ext (h.ext.trans hx) (by have :=h.wK;have :=h.bK;omega)).setCell (p:=⟨y.K,5,none⟩) h.wK _
  kb:=by
   have h1:w4.heap[y.K]? =some (y.obj lB l.length c):=(hk0 _ h.bK).trans h.kb;unfold Lay.obj at h1;rw [Zo h1,List.length_append];rfl
  xr:=(hk _ h.bx (zW hxx h.kb (by decide))).trans hxx
  xl:=h.xl
  rr:=h.rr.keep (hk _ h.br (zW hr' h.kb (by decide)))
  rl:=h.rl
  lr:=h.lr.keep (hk _ h.bl (zW hl h.kb (by decide)))
  ll:=h.ll
  fv:=h.fv.keep fun b cs e fr p q z=>hk b p.2 (zW z h.kb (by rcases q with rfl |rfl<;>decide))
  ls:=(h.ls.snoc hx hg ho hr h1 h2).set (p:=⟨y.K,5,none⟩) h.bK _
  sz:=by rw [Zt];have :=hx.size;have :=hg.below.size;omega
  wK:=h.wK
  wx:=h.wx
  wr:=h.wr
  wl:=h.wl
  bK:=h.bK
  bx:=h.bx
  br:=h.br
  bl:=h.bl
  kp:=⟨fun b cs fr hb=>by
   have h1:=h.kp.keep b cs fr hb;have h2:=hg.heap (zg hx h1) (by decide);exact (Below.heap_setCell w4 ⟨y.K,5,none⟩ _ b (zW h1 h.kb (by decide))).trans h2⟩}
theorem zk6:∀w,PredAt Tryz.prog 220 #[] (Value.int .i64) (fun x:Int=>x !=0) w:=fun w W x _=>by
 unfold FnGives;go_enter Tryz.func220,Tryz.ntmps220;go_wp2;go_ret;exact ⟨rfl,0,rfl⟩
theorem zk7 {w0 w:World} {A:Option Addr} {c:Nat} {l:List Int} (h:Ints w0 A 2 .i64 l) (hl:l.length<=1099511627776) [hx:Ext w0 w]:
  Calls Tryz.prog 131 #[.slice A l.length c,.func (.func 220) #[] #[]] w fun e w'=>(∃i:Int,e= .returned (.int .i64 i)/\((zv l=0/\i=-1)∨(zv l≠0/\∃k:Nat,l[k]? =some (zv l)/\k<l.length/\i=k)))/\∃q,w'=w.drewN q:=by
 have h0:=h.ext hx;rcases Nat.eq_zero_or_pos l.length with hz |hz
 ·have hl0:=List.eq_nil_of_length_eq_zero hz;subst hl0;exact (Tryz.slices_IndexFunc_empty (α:=Int) A c _ w).mono fun e w' ⟨he,hw⟩=>⟨⟨-1,he,.inl ⟨rfl,rfl⟩⟩,0,hw⟩
 ·obtain ⟨b,o,-,rfl,-⟩:=h0.at_ hz;refine (Tryz.slices_IndexFunc (α:=Int) (Value.int .i64) (fun x=>x !=0) 220 #[] (enters_of Tryz.func220 (by kernel_rfl) rfl) b o l.length c l w (zk6 w) Zr (by omega) (fun j hj=>?_)).mono ?_
  ·have :=(Qg h0 (i:=j) (x:=l[j]) (by simp [hj])).1;rw [this];simp [hj]
  ·rintro e w' ⟨he,hw⟩;refine ⟨⟨_,he,?_⟩,hw⟩;rw [List.take_length];rcases zcF l 0 with ⟨h1,h2⟩ |⟨h1,k,h2,h3,h4⟩
   ·exact .inl ⟨h1,h2⟩
   ·exact .inr ⟨h1,k,h2,h3,by unfold Lib.idxBy;rw [h4];simp⟩
def qd (tail:List Int) (lo:Int):Int:=if lo<=0/\0<zv tail then 0 else max lo 1
def Zb (tail:List Int) (a:Int) (j:Nat):List (List Int):=(List.range j).map fun (i:Nat)=>(a+(i:Int))::tail
theorem JS (tail:List Int) (a:Int) (j:Nat):Zb tail a (j+1)=Zb tail a j++[(a+(j:Int))::tail]:=by simp [Zb,List.range_succ]
theorem Jp (tail:List Int) (a:Int) (j:Nat):(Zb tail a j).length=j:=by simp [Zb]
def zT (a hi:Int) (q:Nat):Nat:=min (hi-a+1).toNat (4097-q)
def zk8 (w:World) (y:Lay) (D:List Int) (L:List (List Int)) (x rest:List Int) (lv:List Lvl) (l:List (List Int)) (e:Ending) (W':World):Prop:=
 e= .returned (.tuple #[])/\∃lB c vs,CMem w W' y D L x rest lv lB c l vs
theorem JT (w:World) (p:Addr) (u:Value) (e:TypeId) (cs:Array Value):Arr ((w.setCell p u).alloc (.cells cs e)) (some ⟨w.heap.size,0,none⟩) e cs.toList:=by
 have :=Arr.new (w.setCell p u) e cs;rwa [Zt] at this
theorem Row.tailInts {w:World} {g:Nat} {x0:Int} {tail:List Int} (h:Row w g 2 .i64 (x0::tail)):Ints w (some ⟨g,1,none⟩) 2 .i64 tail:=fun h0=>⟨g,1,_,_,rfl,h,fun j u hu=>by
 rw [List.getElem?_toArray,List.map_cons,show 1+j=j+1 by omega,List.getElem?_cons_succ];exact hu⟩
set_option maxRecDepth 100000 in
theorem zk9 {w W:World} {y:Lay} {D:List Int} {L:List (List Int)} {x0:Int} {tail rest:List Int} {lv:List Lvl} {lB:Option Addr} {c:Nat} {l:List (List Int)} {vs:List Value} {lo hi:Int} (hM:CMem w W y D L (x0::tail) rest lv lB c l vs) (h8:y.n<=8) (hl1:-1099511627776<=lo) (hl2:lo<=1099511627777) (hh1:-1099511627777<=hi) (hh2:hi<=1099511627776) (hl:l.length<=4097):
  Calls Tryz.prog 178 #[.pointer (some ⟨y.K,0,none⟩),.agg #[.int .i64 lo,.int .i64 hi]] W (zk8 w y D L (x0::tail) rest lv (l++Zb tail (qd tail lo) (zT (qd tail lo) hi l.length))):=by
 obtain ⟨K,bx,br,bl,zd,n,mA,lA,mc,lc,gw⟩:=y;simp only at h8 |-
 have hn:tail.length+1=n:=by have :=hM.xl;simpa using this
 obtain ⟨T,ct,hT1,hT2⟩:∃(T:Option Addr) (ct:Nat),Ints W T 2 .i64 tail/\((n=1/\T=some ⟨bx,0,none⟩/\ct=0)∨(n≠1/\T=some ⟨bx,1,none⟩/\ct=n-1)):=by
  by_cases h1:n=1
  ·have :tail=[]:=List.eq_nil_of_length_eq_zero (by omega);subst this;exact ⟨some ⟨bx,0,none⟩,0,Ints.nil,.inl ⟨h1,rfl,rfl⟩⟩
  ·exact ⟨some ⟨bx,1,none⟩,n-1,hM.xr.tailInts,.inr ⟨h1,rfl,rfl⟩⟩
 have hix:=fun W' (hh:Ext W W')=>zk7 (w:=W') (c:=ct) hT1 (by omega)
 have HIX:=Zh hix;obtain ⟨q0,q1,q2,q3,q4,q5,q6,q7⟩:=hM.kc;simp only at q0 q1 q2 q3 q4 q5 q6 q7;have hM0:=hM.to (W':=W.alloc (.cells #[.int .i64 lo,.int .i64 hi] 64)) Zi;have HM0:=Zh hM0;have HT:=Zh hT1;obtain ⟨tl,htl⟩:∃tl,tl=tail.length:=⟨_,rfl⟩;rw [<-htl] at hn HIX;have HTL:=Zh htl;have hts:Hid (((n:Int)-1).toNat=tl/\n-1=tl):=Zh (by omega);have oK:Old K W:=⟨q7⟩;clear hix hM hM0 hT1 htl;obtain ⟨fz,hfz⟩:∃fz,zv tail=fz:=⟨_,rfl⟩
 rw [hfz] at HIX;have HFZ:=Zh hfz;clear hfz;obtain ⟨a,ha⟩:∃a,qd tail lo=a:=⟨_,rfl⟩;rw [ha];have HA:Hid (a=if lo<=0/\0<fz then 0 else max lo 1):=Zh (by rw [<-ha,qd,HFZ.out]);clear ha;have HA0:Hid (0<=a/\a<=1099511627777):=Zh (by have :=HA.out;split at this<;>omega);obtain ⟨q,hq⟩:∃q,l.length=q:=⟨_,rfl⟩;rw [hq] at hl q5 |-
 have HQ:=Zh hq;have HN1:Hid ((x0::tail).length=n):=Zh (by have :=HTL.out;simp;omega);clear hq;rcases hT2 with ⟨h1,rfl,rfl⟩ |⟨h1,rfl,rfl⟩
 ·subst h1;obtain rfl:tl=0:=by omega
  have HT0:=Zh (List.eq_nil_of_length_eq_zero HTL.out.symm);clear hn hts;go_enter Tryz.func178,Tryz.ntmps178;go_upto_region 3 with (go_at_call 131;refine (HIX.out _ Zi).mono ?_;rintro e w1 ⟨⟨i,rfl,hi'⟩,nq,rfl⟩;have HI:=Zh hi';clear hi')
  by_cases hlo:lo<=0
  ·have d1:decide (lo<=0)=true:=by simpa using hlo
   have hmx:max lo 1=1:=by omega
   rcases HI.out with ⟨e1,e2⟩ |⟨e1,k,e2,e3,e4⟩
   ·have HAE:Hid (a=1):=Zh (by rw [HA.out,if_neg (by omega),hmx]);subst e2;clear HI;go_upto_region 6 with fail
    go_wp2_with fail
    go_loopw [7,8] (fun s7 _ wr=>∃(xx:Int) (j:Nat),s7= .int .i64 xx/\Hid (xx=a+j)/\0<=xx/\xx<=1099511627778/\Hid (j<=zT a hi q)/\Hid (wr.heap[W.heap.size]? =some (.cells #[.int .i64 lo,.int .i64 hi] 64 (0,0)))/\∃lB c vs,Hid (CMem w wr ⟨K,bx,br,bl,zd,1,mA,lA,mc,lc,gw⟩ D L (x0::tail) rest lv lB c (l++Zb tail a j) vs)) (fun s7 _ _=>(hi+1-intOf s7).toNat)
    case atStart=>
     have hba:=HA0.out;have zrF:=HAE.out;refine ⟨_,0,rfl,Zh (by omega),by omega,by omega,Zh (by omega),Zh (zg (Zi:Ext (W.alloc (.cells #[.int .i64 lo,.int .i64 hi] 64)) _) (heap_alloc_new W _)),lB,c,vs,Zh ?_⟩;have :=HM0.out.to (W':=(W.alloc (.cells #[.int .i64 lo,.int .i64 hi] 64)).drewN nq) Zi;simpa [Zb] using this
    case round=>
     obtain ⟨xx,j,rfl,HXJ,hx1,hx2,HJ,HBX,lB2,c2,vs2,HMr⟩:=hrel;clear q0 q1 q2 q3 q4 q5 q6 q7 oK;obtain ⟨b1,b2,b3,b4,b5⟩:=zK HBX.out;obtain ⟨q0,q1,q2,q3,q4,q5,q6,q7⟩:=HMr.out.kc;simp only at q0 q1 q2 q3 q4 q5 q6 q7;obtain ⟨lq,hlq⟩:∃lq,(l++Zb tail a j).length=lq:=⟨_,rfl⟩;have zqk:lq=q+j:=by rw [<-hlq,List.length_append,Jp,HQ.out]
     rw [hlq] at q5;have HLQ:=Zh hlq;have HLQ':=Zh zqk;have oK2:Old K wr:=⟨q7⟩;have oB2:Old W.heap.size wr:=⟨b5⟩;clear hlq;by_cases hlt:xx<=hi
     ·have dx:decide (xx<=hi)=true:=by simpa using hlt
      by_cases hq:lq<=4096
      ·have dq:decide (lq<=4096)=true:=by simpa using hq
       have zp7:=HMr.out.ls.own;simp only at zp7;rw [HLQ.out] at zp7;have HO:=Zh zp7;have zqf:=HMr.out.sz;have hKb:=HMr.out.bK;simp only at zqf hKb;have hkb:=HMr.out.kb;unfold Lay.obj at hkb;simp only at hkb;rw [HLQ.out] at hkb;have HKB:=Zh hkb;have hcl:=fun W' (hh:Ext wr W')=>Jk (w:=W') (c:=1) HMr.out.xr.ints (by rw [HN1.out];omega)
       simp only at hcl;unfold Jj at hcl;rw [HN1.out] at hcl;have HCL:=Zh hcl;have hrl:Hid (((x0::tail).map (Value.int .i64))[0]? =some (.int .i64 x0)):=Zh rfl;clear zqk zp7 hkb hcl;go_wp2_with (first
        |(go_at_call 84;refine (HCL.out _ Zi).mono ?_;rintro e w2 ⟨B2,d2,rfl,hO2,hs2⟩;obtain ⟨g,rfl,hg1,hg2,hg3,hg4⟩:=hO2.open_ (by omega);obtain ⟨g5,g6⟩:=hg3 0 _ hrl.out;have hcp:=hO2.cap;have HO3:=Zh (hg4 0 (.int .i64 xx) (by omega));have nG:New g wr:=⟨hg1⟩;have aK:Apart K g:=⟨by omega⟩;have aB:Apart W.heap.size g:=⟨by omega⟩;clear hg3 hg4 hO2)
        |(at_builtin;refine zI _ rfl _ _ 26 rfl zd 37 (.slice none 0 0) 1 24 Tryz.underlying26 qA rfl (by omega) (by omega) lB2 lq c2 vs2 rfl (HO.out.ext Zi) _ 1 1 [.slice (some ⟨g,0,none⟩) 1 d2] rfl (JT w2 ⟨g,0,none⟩ (.int .i64 xx) 37 #[.slice (some ⟨g,0,none⟩) 1 d2]) (by simp) (by simp [Value.oneCell']) (by omega) (by have :=hs2.size;simp;omega) ?_;intro A4 d4 w4 zqd zqj;have hk4:=(zqj.below.block K hKb).trans (zg (Zi:Ext wr ((w2.setCell ⟨g,0,none⟩ (.int .i64 xx)).alloc (Obj.cells #[Value.slice (some ⟨g,0,none⟩) 1 d2] 37))) HKB.out);have k41:w4.cell? ⟨K,5,none⟩=some (.slice lB2 lq c2):=(by simp [World.cell?,hk4]);have k42:w4.frozen? ⟨K,5,none⟩=false:=(by simp [World.frozen?,hk4]);have k43:K<w4.heap.size:=zA hk4;clear hk4))
       have hxW3:Ext wr ((w2.setCell ⟨g,0,none⟩ (.int .i64 xx)).alloc (Obj.cells #[Value.slice (some ⟨g,0,none⟩) 1 d2] 37)):=Zi;have hn1:=HN1.out;have hr3:ArrX zd ((w2.setCell ⟨g,0,none⟩ (.int .i64 xx)).alloc (Obj.cells #[Value.slice (some ⟨g,0,none⟩) 1 d2] 37)) (some ⟨g,0,none⟩) 2 ((xx::tail).map (Value.int .i64)):=((HO3.out.arrX).lower zqf).ext Zi;have zqa:=HMr.out.snoc hxW3 (r:=xx::tail) (A4:=A4) (B:=some ⟨g,0,none⟩) (d4:=d4) (d:=d2) zqj (by rw [HLQ.out,show (xx::tail).length=1 from hn1];exact zqd) hr3 (by rw [show (xx::tail).length=1 from hn1];exact hcp.1) hcp.2
       simp only at zqa;rw [HLQ.out,List.append_assoc,show xx=a+(j:Int) from HXJ.out,<-JS] at zqa;have hb4:=Zj (p:=⟨K,5,none⟩) (zqj.heap (zg hxW3 HBX.out) (by decide)) (show W.heap.size≠K from zW HBX.out HMr.out.kb (by decide)) (.slice A4 (lq+1) d4);have hba:=HA0.out;have zrG:=HLQ'.out;have hxj:=HXJ.out;have dx':=of_decide_eq_true dx;have dq':=of_decide_eq_true dq;refine ⟨⟨xx+1,j+1,rfl,Zh (by omega),by omega,by omega,Zh (by unfold zT;omega),Zh hb4,A4,d4,_,Zh zqa⟩,by simp [intOf];omega⟩
      ·have dq:decide (lq<=4096)=false:=by simpa using hq
       have HE:Hid (zT a hi q=j):=Zh (by have :=HJ.out;unfold zT at this |-;omega);clear zqk;go_wp2_with fail
       go_end0
       exact ⟨rfl,lB2,c2,vs2,by rw [HE.out];exact HMr.out⟩
     ·have dx:decide (xx<=hi)=false:=by simpa using hlt
      have HE:Hid (zT a hi q=j):=Zh (by have h1:=HJ.out;have h2:=HXJ.out;unfold zT at h1 |-;omega);clear zqk;go_wp2_with fail
      go_end0
      exact ⟨rfl,lB2,c2,vs2,by rw [HE.out];exact HMr.out⟩
   ·exact absurd e3 (by omega)
  ·have d1:decide (lo<=0)=false:=by simpa using hlo
   have hmx:max lo 1=lo:=by omega
   have HAE:Hid (a=lo):=Zh (by rw [HA.out,if_neg (by omega),hmx]);clear HI;go_upto_region 6 with fail
   go_wp2_with fail
   go_loopw [7,8] (fun s7 _ wr=>∃(xx:Int) (j:Nat),s7= .int .i64 xx/\Hid (xx=a+j)/\0<=xx/\xx<=1099511627778/\Hid (j<=zT a hi q)/\Hid (wr.heap[W.heap.size]? =some (.cells #[.int .i64 lo,.int .i64 hi] 64 (0,0)))/\∃lB c vs,Hid (CMem w wr ⟨K,bx,br,bl,zd,1,mA,lA,mc,lc,gw⟩ D L (x0::tail) rest lv lB c (l++Zb tail a j) vs)) (fun s7 _ _=>(hi+1-intOf s7).toNat)
   case atStart=>
    have hba:=HA0.out;have zrF:=HAE.out;refine ⟨_,0,rfl,Zh (by omega),by omega,by omega,Zh (by omega),Zh (zg (Zi:Ext (W.alloc (.cells #[.int .i64 lo,.int .i64 hi] 64)) _) (heap_alloc_new W _)),lB,c,vs,Zh ?_⟩;have :=HM0.out.to (W':=(W.alloc (.cells #[.int .i64 lo,.int .i64 hi] 64)).drewN nq) Zi;simpa [Zb] using this
   case round=>
    obtain ⟨xx,j,rfl,HXJ,hx1,hx2,HJ,HBX,lB2,c2,vs2,HMr⟩:=hrel;clear q0 q1 q2 q3 q4 q5 q6 q7 oK;obtain ⟨b1,b2,b3,b4,b5⟩:=zK HBX.out;obtain ⟨q0,q1,q2,q3,q4,q5,q6,q7⟩:=HMr.out.kc;simp only at q0 q1 q2 q3 q4 q5 q6 q7;obtain ⟨lq,hlq⟩:∃lq,(l++Zb tail a j).length=lq:=⟨_,rfl⟩;have zqk:lq=q+j:=by rw [<-hlq,List.length_append,Jp,HQ.out]
    rw [hlq] at q5;have HLQ:=Zh hlq;have HLQ':=Zh zqk;have oK2:Old K wr:=⟨q7⟩;have oB2:Old W.heap.size wr:=⟨b5⟩;clear hlq;by_cases hlt:xx<=hi
    ·have dx:decide (xx<=hi)=true:=by simpa using hlt
     by_cases hq:lq<=4096
     ·have dq:decide (lq<=4096)=true:=by simpa using hq
      have zp7:=HMr.out.ls.own;simp only at zp7;rw [HLQ.out] at zp7;have HO:=Zh zp7;have zqf:=HMr.out.sz;have hKb:=HMr.out.bK;simp only at zqf hKb;have hkb:=HMr.out.kb;unfold Lay.obj at hkb;simp only at hkb;rw [HLQ.out] at hkb;have HKB:=Zh hkb;have hcl:=fun W' (hh:Ext wr W')=>Jk (w:=W') (c:=1) HMr.out.xr.ints (by rw [HN1.out];omega)
      simp only at hcl;unfold Jj at hcl;rw [HN1.out] at hcl;have HCL:=Zh hcl;have hrl:Hid (((x0::tail).map (Value.int .i64))[0]? =some (.int .i64 x0)):=Zh rfl;clear zqk zp7 hkb hcl;go_wp2_with (first
       |(go_at_call 84;refine (HCL.out _ Zi).mono ?_;rintro e w2 ⟨B2,d2,rfl,hO2,hs2⟩;obtain ⟨g,rfl,hg1,hg2,hg3,hg4⟩:=hO2.open_ (by omega);obtain ⟨g5,g6⟩:=hg3 0 _ hrl.out;have hcp:=hO2.cap;have HO3:=Zh (hg4 0 (.int .i64 xx) (by omega));have nG:New g wr:=⟨hg1⟩;have aK:Apart K g:=⟨by omega⟩;have aB:Apart W.heap.size g:=⟨by omega⟩;clear hg3 hg4 hO2)
       |(at_builtin;refine zI _ rfl _ _ 26 rfl zd 37 (.slice none 0 0) 1 24 Tryz.underlying26 qA rfl (by omega) (by omega) lB2 lq c2 vs2 rfl (HO.out.ext Zi) _ 1 1 [.slice (some ⟨g,0,none⟩) 1 d2] rfl (JT w2 ⟨g,0,none⟩ (.int .i64 xx) 37 #[.slice (some ⟨g,0,none⟩) 1 d2]) (by simp) (by simp [Value.oneCell']) (by omega) (by have :=hs2.size;simp;omega) ?_;intro A4 d4 w4 zqd zqj;have hk4:=(zqj.below.block K hKb).trans (zg (Zi:Ext wr ((w2.setCell ⟨g,0,none⟩ (.int .i64 xx)).alloc (Obj.cells #[Value.slice (some ⟨g,0,none⟩) 1 d2] 37))) HKB.out);have k41:w4.cell? ⟨K,5,none⟩=some (.slice lB2 lq c2):=(by simp [World.cell?,hk4]);have k42:w4.frozen? ⟨K,5,none⟩=false:=(by simp [World.frozen?,hk4]);have k43:K<w4.heap.size:=zA hk4;clear hk4))
      have hxW3:Ext wr ((w2.setCell ⟨g,0,none⟩ (.int .i64 xx)).alloc (Obj.cells #[Value.slice (some ⟨g,0,none⟩) 1 d2] 37)):=Zi;have hn1:=HN1.out;have hr3:ArrX zd ((w2.setCell ⟨g,0,none⟩ (.int .i64 xx)).alloc (Obj.cells #[Value.slice (some ⟨g,0,none⟩) 1 d2] 37)) (some ⟨g,0,none⟩) 2 ((xx::tail).map (Value.int .i64)):=((HO3.out.arrX).lower zqf).ext Zi;have zqa:=HMr.out.snoc hxW3 (r:=xx::tail) (A4:=A4) (B:=some ⟨g,0,none⟩) (d4:=d4) (d:=d2) zqj (by rw [HLQ.out,show (xx::tail).length=1 from hn1];exact zqd) hr3 (by rw [show (xx::tail).length=1 from hn1];exact hcp.1) hcp.2
      simp only at zqa;rw [HLQ.out,List.append_assoc,show xx=a+(j:Int) from HXJ.out,<-JS] at zqa;have hb4:=Zj (p:=⟨K,5,none⟩) (zqj.heap (zg hxW3 HBX.out) (by decide)) (show W.heap.size≠K from zW HBX.out HMr.out.kb (by decide)) (.slice A4 (lq+1) d4);have hba:=HA0.out;have zrG:=HLQ'.out;have hxj:=HXJ.out;have dx':=of_decide_eq_true dx;have dq':=of_decide_eq_true dq;refine ⟨⟨xx+1,j+1,rfl,Zh (by omega),by omega,by omega,Zh (by unfold zT;omega),Zh hb4,A4,d4,_,Zh zqa⟩,by simp [intOf];omega⟩
     ·have dq:decide (lq<=4096)=false:=by simpa using hq
      have HE:Hid (zT a hi q=j):=Zh (by have :=HJ.out;unfold zT at this |-;omega);clear zqk;go_wp2_with fail
      go_end0
      exact ⟨rfl,lB2,c2,vs2,by rw [HE.out];exact HMr.out⟩
    ·have dx:decide (xx<=hi)=false:=by simpa using hlt
     have HE:Hid (zT a hi q=j):=Zh (by have h1:=HJ.out;have h2:=HXJ.out;unfold zT at h1 |-;omega);clear zqk;go_wp2_with fail
     go_end0
     exact ⟨rfl,lB2,c2,vs2,by rw [HE.out];exact HMr.out⟩
 ·obtain rfl:tl=n-1:=by omega
  have h1n:(1:Int)<=(n:Int):=by omega
  clear hts;go_enter Tryz.func178,Tryz.ntmps178;go_upto_region 3 with (go_at_call 131;refine (HIX.out _ Zi).mono ?_;rintro e w1 ⟨⟨i,rfl,hi'⟩,nq,rfl⟩;have HI:=Zh hi';clear hi')
  by_cases hlo:lo<=0
  ·have d1:decide (lo<=0)=true:=by simpa using hlo
   have hmx:max lo 1=1:=by omega
   rcases HI.out with ⟨e1,e2⟩ |⟨e1,k,e2,e3,e4⟩
   ·have HAE:Hid (a=1):=Zh (by rw [HA.out,if_neg (by omega),hmx]);subst e2;clear HI;go_upto_region 6 with fail
    go_wp2_with fail
    go_loopw [7,8] (fun s7 _ wr=>∃(xx:Int) (j:Nat),s7= .int .i64 xx/\Hid (xx=a+j)/\0<=xx/\xx<=1099511627778/\Hid (j<=zT a hi q)/\Hid (wr.heap[W.heap.size]? =some (.cells #[.int .i64 lo,.int .i64 hi] 64 (0,0)))/\∃lB c vs,Hid (CMem w wr ⟨K,bx,br,bl,zd,n,mA,lA,mc,lc,gw⟩ D L (x0::tail) rest lv lB c (l++Zb tail a j) vs)) (fun s7 _ _=>(hi+1-intOf s7).toNat)
    case atStart=>
     have hba:=HA0.out;have zrF:=HAE.out;refine ⟨_,0,rfl,Zh (by omega),by omega,by omega,Zh (by omega),Zh (zg (Zi:Ext (W.alloc (.cells #[.int .i64 lo,.int .i64 hi] 64)) _) (heap_alloc_new W _)),lB,c,vs,Zh ?_⟩;have :=HM0.out.to (W':=(W.alloc (.cells #[.int .i64 lo,.int .i64 hi] 64)).drewN nq) Zi;simpa [Zb] using this
    case round=>
     obtain ⟨xx,j,rfl,HXJ,hx1,hx2,HJ,HBX,lB2,c2,vs2,HMr⟩:=hrel;clear q0 q1 q2 q3 q4 q5 q6 q7 oK;obtain ⟨b1,b2,b3,b4,b5⟩:=zK HBX.out;obtain ⟨q0,q1,q2,q3,q4,q5,q6,q7⟩:=HMr.out.kc;simp only at q0 q1 q2 q3 q4 q5 q6 q7;obtain ⟨lq,hlq⟩:∃lq,(l++Zb tail a j).length=lq:=⟨_,rfl⟩;have zqk:lq=q+j:=by rw [<-hlq,List.length_append,Jp,HQ.out]
     rw [hlq] at q5;have HLQ:=Zh hlq;have HLQ':=Zh zqk;have oK2:Old K wr:=⟨q7⟩;have oB2:Old W.heap.size wr:=⟨b5⟩;clear hlq;by_cases hlt:xx<=hi
     ·have dx:decide (xx<=hi)=true:=by simpa using hlt
      by_cases hq:lq<=4096
      ·have dq:decide (lq<=4096)=true:=by simpa using hq
       have zp7:=HMr.out.ls.own;simp only at zp7;rw [HLQ.out] at zp7;have HO:=Zh zp7;have zqf:=HMr.out.sz;have hKb:=HMr.out.bK;simp only at zqf hKb;have hkb:=HMr.out.kb;unfold Lay.obj at hkb;simp only at hkb;rw [HLQ.out] at hkb;have HKB:=Zh hkb;have hcl:=fun W' (hh:Ext wr W')=>Jk (w:=W') (c:=n) HMr.out.xr.ints (by rw [HN1.out];omega)
       simp only at hcl;unfold Jj at hcl;rw [HN1.out] at hcl;have HCL:=Zh hcl;have hrl:Hid (((x0::tail).map (Value.int .i64))[0]? =some (.int .i64 x0)):=Zh rfl;clear zqk zp7 hkb hcl;go_wp2_with (first
        |(go_at_call 84;refine (HCL.out _ Zi).mono ?_;rintro e w2 ⟨B2,d2,rfl,hO2,hs2⟩;obtain ⟨g,rfl,hg1,hg2,hg3,hg4⟩:=hO2.open_ (by omega);obtain ⟨g5,g6⟩:=hg3 0 _ hrl.out;have hcp:=hO2.cap;have HO3:=Zh (hg4 0 (.int .i64 xx) (by omega));have nG:New g wr:=⟨hg1⟩;have aK:Apart K g:=⟨by omega⟩;have aB:Apart W.heap.size g:=⟨by omega⟩;clear hg3 hg4 hO2)
        |(at_builtin;refine zI _ rfl _ _ 26 rfl zd 37 (.slice none 0 0) 1 24 Tryz.underlying26 qA rfl (by omega) (by omega) lB2 lq c2 vs2 rfl (HO.out.ext Zi) _ 1 1 [.slice (some ⟨g,0,none⟩) n d2] rfl (JT w2 ⟨g,0,none⟩ (.int .i64 xx) 37 #[.slice (some ⟨g,0,none⟩) n d2]) (by simp) (by simp [Value.oneCell']) (by omega) (by have :=hs2.size;simp;omega) ?_;intro A4 d4 w4 zqd zqj;have hk4:=(zqj.below.block K hKb).trans (zg (Zi:Ext wr ((w2.setCell ⟨g,0,none⟩ (.int .i64 xx)).alloc (Obj.cells #[Value.slice (some ⟨g,0,none⟩) n d2] 37))) HKB.out);have k41:w4.cell? ⟨K,5,none⟩=some (.slice lB2 lq c2):=(by simp [World.cell?,hk4]);have k42:w4.frozen? ⟨K,5,none⟩=false:=(by simp [World.frozen?,hk4]);have k43:K<w4.heap.size:=zA hk4;clear hk4))
       have hxW3:Ext wr ((w2.setCell ⟨g,0,none⟩ (.int .i64 xx)).alloc (Obj.cells #[Value.slice (some ⟨g,0,none⟩) n d2] 37)):=Zi;have hn1:=HN1.out;have hr3:ArrX zd ((w2.setCell ⟨g,0,none⟩ (.int .i64 xx)).alloc (Obj.cells #[Value.slice (some ⟨g,0,none⟩) n d2] 37)) (some ⟨g,0,none⟩) 2 ((xx::tail).map (Value.int .i64)):=((HO3.out.arrX).lower zqf).ext Zi;have zqa:=HMr.out.snoc hxW3 (r:=xx::tail) (A4:=A4) (B:=some ⟨g,0,none⟩) (d4:=d4) (d:=d2) zqj (by rw [HLQ.out,show (xx::tail).length=n from hn1];exact zqd) hr3 (by rw [show (xx::tail).length=n from hn1];exact hcp.1) hcp.2
       simp only at zqa;rw [HLQ.out,List.append_assoc,show xx=a+(j:Int) from HXJ.out,<-JS] at zqa;have hb4:=Zj (p:=⟨K,5,none⟩) (zqj.heap (zg hxW3 HBX.out) (by decide)) (show W.heap.size≠K from zW HBX.out HMr.out.kb (by decide)) (.slice A4 (lq+1) d4);have hba:=HA0.out;have zrG:=HLQ'.out;have hxj:=HXJ.out;have dx':=of_decide_eq_true dx;have dq':=of_decide_eq_true dq;refine ⟨⟨xx+1,j+1,rfl,Zh (by omega),by omega,by omega,Zh (by unfold zT;omega),Zh hb4,A4,d4,_,Zh zqa⟩,by simp [intOf];omega⟩
      ·have dq:decide (lq<=4096)=false:=by simpa using hq
       have HE:Hid (zT a hi q=j):=Zh (by have :=HJ.out;unfold zT at this |-;omega);clear zqk;go_wp2_with fail
       go_end0
       exact ⟨rfl,lB2,c2,vs2,by rw [HE.out];exact HMr.out⟩
     ·have dx:decide (xx<=hi)=false:=by simpa using hlt
      have HE:Hid (zT a hi q=j):=Zh (by have h1:=HJ.out;have h2:=HXJ.out;unfold zT at h1 |-;omega);clear zqk;go_wp2_with fail
      go_end0
      exact ⟨rfl,lB2,c2,vs2,by rw [HE.out];exact HMr.out⟩
   ·subst e4;obtain ⟨f1,f2⟩:=Qg (HT.out.ext (Zi:Ext W ((W.alloc (.cells #[.int .i64 lo,.int .i64 hi] 64)).drewN nq))) e2;have hk1:(k:Int)<(n:Int)-1:=by have :=HTL.out;omega
    have hk2:k<n-1:=by omega
    have hk0:decide ((0:Int)<=(k:Int))=true:=by simp
    clear HI e2 e3;by_cases hf:0<fz
    ·have d2:decide (0<fz)=true:=by simpa using hf
     have HAE:Hid (a=0):=Zh (by rw [HA.out,if_pos ⟨hlo,hf⟩]);go_upto_region 6 with fail
     go_wp2_with fail
     go_loopw [7,8] (fun s7 _ wr=>∃(xx:Int) (j:Nat),s7= .int .i64 xx/\Hid (xx=a+j)/\0<=xx/\xx<=1099511627778/\Hid (j<=zT a hi q)/\Hid (wr.heap[W.heap.size]? =some (.cells #[.int .i64 lo,.int .i64 hi] 64 (0,0)))/\∃lB c vs,Hid (CMem w wr ⟨K,bx,br,bl,zd,n,mA,lA,mc,lc,gw⟩ D L (x0::tail) rest lv lB c (l++Zb tail a j) vs)) (fun s7 _ _=>(hi+1-intOf s7).toNat)
     case atStart=>
      have hba:=HA0.out;have zrF:=HAE.out;refine ⟨_,0,rfl,Zh (by omega),by omega,by omega,Zh (by omega),Zh (zg (Zi:Ext (W.alloc (.cells #[.int .i64 lo,.int .i64 hi] 64)) _) (heap_alloc_new W _)),lB,c,vs,Zh ?_⟩;have :=HM0.out.to (W':=(W.alloc (.cells #[.int .i64 lo,.int .i64 hi] 64)).drewN nq) Zi;simpa [Zb] using this
     case round=>
      obtain ⟨xx,j,rfl,HXJ,hx1,hx2,HJ,HBX,lB2,c2,vs2,HMr⟩:=hrel;clear q0 q1 q2 q3 q4 q5 q6 q7 oK;obtain ⟨b1,b2,b3,b4,b5⟩:=zK HBX.out;obtain ⟨q0,q1,q2,q3,q4,q5,q6,q7⟩:=HMr.out.kc;simp only at q0 q1 q2 q3 q4 q5 q6 q7;obtain ⟨lq,hlq⟩:∃lq,(l++Zb tail a j).length=lq:=⟨_,rfl⟩;have zqk:lq=q+j:=by rw [<-hlq,List.length_append,Jp,HQ.out]
      rw [hlq] at q5;have HLQ:=Zh hlq;have HLQ':=Zh zqk;have oK2:Old K wr:=⟨q7⟩;have oB2:Old W.heap.size wr:=⟨b5⟩;clear hlq;by_cases hlt:xx<=hi
      ·have dx:decide (xx<=hi)=true:=by simpa using hlt
       by_cases hq:lq<=4096
       ·have dq:decide (lq<=4096)=true:=by simpa using hq
        have zp7:=HMr.out.ls.own;simp only at zp7;rw [HLQ.out] at zp7;have HO:=Zh zp7;have zqf:=HMr.out.sz;have hKb:=HMr.out.bK;simp only at zqf hKb;have hkb:=HMr.out.kb;unfold Lay.obj at hkb;simp only at hkb;rw [HLQ.out] at hkb;have HKB:=Zh hkb;have hcl:=fun W' (hh:Ext wr W')=>Jk (w:=W') (c:=n) HMr.out.xr.ints (by rw [HN1.out];omega)
        simp only at hcl;unfold Jj at hcl;rw [HN1.out] at hcl;have HCL:=Zh hcl;have hrl:Hid (((x0::tail).map (Value.int .i64))[0]? =some (.int .i64 x0)):=Zh rfl;clear zqk zp7 hkb hcl;go_wp2_with (first
         |(go_at_call 84;refine (HCL.out _ Zi).mono ?_;rintro e w2 ⟨B2,d2,rfl,hO2,hs2⟩;obtain ⟨g,rfl,hg1,hg2,hg3,hg4⟩:=hO2.open_ (by omega);obtain ⟨g5,g6⟩:=hg3 0 _ hrl.out;have hcp:=hO2.cap;have HO3:=Zh (hg4 0 (.int .i64 xx) (by omega));have nG:New g wr:=⟨hg1⟩;have aK:Apart K g:=⟨by omega⟩;have aB:Apart W.heap.size g:=⟨by omega⟩;clear hg3 hg4 hO2)
         |(at_builtin;refine zI _ rfl _ _ 26 rfl zd 37 (.slice none 0 0) 1 24 Tryz.underlying26 qA rfl (by omega) (by omega) lB2 lq c2 vs2 rfl (HO.out.ext Zi) _ 1 1 [.slice (some ⟨g,0,none⟩) n d2] rfl (JT w2 ⟨g,0,none⟩ (.int .i64 xx) 37 #[.slice (some ⟨g,0,none⟩) n d2]) (by simp) (by simp [Value.oneCell']) (by omega) (by have :=hs2.size;simp;omega) ?_;intro A4 d4 w4 zqd zqj;have hk4:=(zqj.below.block K hKb).trans (zg (Zi:Ext wr ((w2.setCell ⟨g,0,none⟩ (.int .i64 xx)).alloc (Obj.cells #[Value.slice (some ⟨g,0,none⟩) n d2] 37))) HKB.out);have k41:w4.cell? ⟨K,5,none⟩=some (.slice lB2 lq c2):=(by simp [World.cell?,hk4]);have k42:w4.frozen? ⟨K,5,none⟩=false:=(by simp [World.frozen?,hk4]);have k43:K<w4.heap.size:=zA hk4;clear hk4))
        have hxW3:Ext wr ((w2.setCell ⟨g,0,none⟩ (.int .i64 xx)).alloc (Obj.cells #[Value.slice (some ⟨g,0,none⟩) n d2] 37)):=Zi;have hn1:=HN1.out;have hr3:ArrX zd ((w2.setCell ⟨g,0,none⟩ (.int .i64 xx)).alloc (Obj.cells #[Value.slice (some ⟨g,0,none⟩) n d2] 37)) (some ⟨g,0,none⟩) 2 ((xx::tail).map (Value.int .i64)):=((HO3.out.arrX).lower zqf).ext Zi;have zqa:=HMr.out.snoc hxW3 (r:=xx::tail) (A4:=A4) (B:=some ⟨g,0,none⟩) (d4:=d4) (d:=d2) zqj (by rw [HLQ.out,show (xx::tail).length=n from hn1];exact zqd) hr3 (by rw [show (xx::tail).length=n from hn1];exact hcp.1) hcp.2
        simp only at zqa;rw [HLQ.out,List.append_assoc,show xx=a+(j:Int) from HXJ.out,<-JS] at zqa;have hb4:=Zj (p:=⟨K,5,none⟩) (zqj.heap (zg hxW3 HBX.out) (by decide)) (show W.heap.size≠K from zW HBX.out HMr.out.kb (by decide)) (.slice A4 (lq+1) d4);have hba:=HA0.out;have zrG:=HLQ'.out;have hxj:=HXJ.out;have dx':=of_decide_eq_true dx;have dq':=of_decide_eq_true dq;refine ⟨⟨xx+1,j+1,rfl,Zh (by omega),by omega,by omega,Zh (by unfold zT;omega),Zh hb4,A4,d4,_,Zh zqa⟩,by simp [intOf];omega⟩
       ·have dq:decide (lq<=4096)=false:=by simpa using hq
        have HE:Hid (zT a hi q=j):=Zh (by have :=HJ.out;unfold zT at this |-;omega);clear zqk;go_wp2_with fail
        go_end0
        exact ⟨rfl,lB2,c2,vs2,by rw [HE.out];exact HMr.out⟩
      ·have dx:decide (xx<=hi)=false:=by simpa using hlt
       have HE:Hid (zT a hi q=j):=Zh (by have h1:=HJ.out;have h2:=HXJ.out;unfold zT at h1 |-;omega);clear zqk;go_wp2_with fail
       go_end0
       exact ⟨rfl,lB2,c2,vs2,by rw [HE.out];exact HMr.out⟩
    ·have d2:decide (0<fz)=false:=by simpa using hf
     have HAE:Hid (a=1):=Zh (by rw [HA.out,if_neg (by omega),hmx]);go_upto_region 6 with fail
     go_wp2_with fail
     go_loopw [7,8] (fun s7 _ wr=>∃(xx:Int) (j:Nat),s7= .int .i64 xx/\Hid (xx=a+j)/\0<=xx/\xx<=1099511627778/\Hid (j<=zT a hi q)/\Hid (wr.heap[W.heap.size]? =some (.cells #[.int .i64 lo,.int .i64 hi] 64 (0,0)))/\∃lB c vs,Hid (CMem w wr ⟨K,bx,br,bl,zd,n,mA,lA,mc,lc,gw⟩ D L (x0::tail) rest lv lB c (l++Zb tail a j) vs)) (fun s7 _ _=>(hi+1-intOf s7).toNat)
     case atStart=>
      have hba:=HA0.out;have zrF:=HAE.out;refine ⟨_,0,rfl,Zh (by omega),by omega,by omega,Zh (by omega),Zh (zg (Zi:Ext (W.alloc (.cells #[.int .i64 lo,.int .i64 hi] 64)) _) (heap_alloc_new W _)),lB,c,vs,Zh ?_⟩;have :=HM0.out.to (W':=(W.alloc (.cells #[.int .i64 lo,.int .i64 hi] 64)).drewN nq) Zi;simpa [Zb] using this
     case round=>
      obtain ⟨xx,j,rfl,HXJ,hx1,hx2,HJ,HBX,lB2,c2,vs2,HMr⟩:=hrel;clear q0 q1 q2 q3 q4 q5 q6 q7 oK;obtain ⟨b1,b2,b3,b4,b5⟩:=zK HBX.out;obtain ⟨q0,q1,q2,q3,q4,q5,q6,q7⟩:=HMr.out.kc;simp only at q0 q1 q2 q3 q4 q5 q6 q7;obtain ⟨lq,hlq⟩:∃lq,(l++Zb tail a j).length=lq:=⟨_,rfl⟩;have zqk:lq=q+j:=by rw [<-hlq,List.length_append,Jp,HQ.out]
      rw [hlq] at q5;have HLQ:=Zh hlq;have HLQ':=Zh zqk;have oK2:Old K wr:=⟨q7⟩;have oB2:Old W.heap.size wr:=⟨b5⟩;clear hlq;by_cases hlt:xx<=hi
      ·have dx:decide (xx<=hi)=true:=by simpa using hlt
       by_cases hq:lq<=4096
       ·have dq:decide (lq<=4096)=true:=by simpa using hq
        have zp7:=HMr.out.ls.own;simp only at zp7;rw [HLQ.out] at zp7;have HO:=Zh zp7;have zqf:=HMr.out.sz;have hKb:=HMr.out.bK;simp only at zqf hKb;have hkb:=HMr.out.kb;unfold Lay.obj at hkb;simp only at hkb;rw [HLQ.out] at hkb;have HKB:=Zh hkb;have hcl:=fun W' (hh:Ext wr W')=>Jk (w:=W') (c:=n) HMr.out.xr.ints (by rw [HN1.out];omega)
        simp only at hcl;unfold Jj at hcl;rw [HN1.out] at hcl;have HCL:=Zh hcl;have hrl:Hid (((x0::tail).map (Value.int .i64))[0]? =some (.int .i64 x0)):=Zh rfl;clear zqk zp7 hkb hcl;go_wp2_with (first
         |(go_at_call 84;refine (HCL.out _ Zi).mono ?_;rintro e w2 ⟨B2,d2,rfl,hO2,hs2⟩;obtain ⟨g,rfl,hg1,hg2,hg3,hg4⟩:=hO2.open_ (by omega);obtain ⟨g5,g6⟩:=hg3 0 _ hrl.out;have hcp:=hO2.cap;have HO3:=Zh (hg4 0 (.int .i64 xx) (by omega));have nG:New g wr:=⟨hg1⟩;have aK:Apart K g:=⟨by omega⟩;have aB:Apart W.heap.size g:=⟨by omega⟩;clear hg3 hg4 hO2)
         |(at_builtin;refine zI _ rfl _ _ 26 rfl zd 37 (.slice none 0 0) 1 24 Tryz.underlying26 qA rfl (by omega) (by omega) lB2 lq c2 vs2 rfl (HO.out.ext Zi) _ 1 1 [.slice (some ⟨g,0,none⟩) n d2] rfl (JT w2 ⟨g,0,none⟩ (.int .i64 xx) 37 #[.slice (some ⟨g,0,none⟩) n d2]) (by simp) (by simp [Value.oneCell']) (by omega) (by have :=hs2.size;simp;omega) ?_;intro A4 d4 w4 zqd zqj;have hk4:=(zqj.below.block K hKb).trans (zg (Zi:Ext wr ((w2.setCell ⟨g,0,none⟩ (.int .i64 xx)).alloc (Obj.cells #[Value.slice (some ⟨g,0,none⟩) n d2] 37))) HKB.out);have k41:w4.cell? ⟨K,5,none⟩=some (.slice lB2 lq c2):=(by simp [World.cell?,hk4]);have k42:w4.frozen? ⟨K,5,none⟩=false:=(by simp [World.frozen?,hk4]);have k43:K<w4.heap.size:=zA hk4;clear hk4))
        have hxW3:Ext wr ((w2.setCell ⟨g,0,none⟩ (.int .i64 xx)).alloc (Obj.cells #[Value.slice (some ⟨g,0,none⟩) n d2] 37)):=Zi;have hn1:=HN1.out;have hr3:ArrX zd ((w2.setCell ⟨g,0,none⟩ (.int .i64 xx)).alloc (Obj.cells #[Value.slice (some ⟨g,0,none⟩) n d2] 37)) (some ⟨g,0,none⟩) 2 ((xx::tail).map (Value.int .i64)):=((HO3.out.arrX).lower zqf).ext Zi;have zqa:=HMr.out.snoc hxW3 (r:=xx::tail) (A4:=A4) (B:=some ⟨g,0,none⟩) (d4:=d4) (d:=d2) zqj (by rw [HLQ.out,show (xx::tail).length=n from hn1];exact zqd) hr3 (by rw [show (xx::tail).length=n from hn1];exact hcp.1) hcp.2
        simp only at zqa;rw [HLQ.out,List.append_assoc,show xx=a+(j:Int) from HXJ.out,<-JS] at zqa;have hb4:=Zj (p:=⟨K,5,none⟩) (zqj.heap (zg hxW3 HBX.out) (by decide)) (show W.heap.size≠K from zW HBX.out HMr.out.kb (by decide)) (.slice A4 (lq+1) d4);have hba:=HA0.out;have zrG:=HLQ'.out;have hxj:=HXJ.out;have dx':=of_decide_eq_true dx;have dq':=of_decide_eq_true dq;refine ⟨⟨xx+1,j+1,rfl,Zh (by omega),by omega,by omega,Zh (by unfold zT;omega),Zh hb4,A4,d4,_,Zh zqa⟩,by simp [intOf];omega⟩
       ·have dq:decide (lq<=4096)=false:=by simpa using hq
        have HE:Hid (zT a hi q=j):=Zh (by have :=HJ.out;unfold zT at this |-;omega);clear zqk;go_wp2_with fail
        go_end0
        exact ⟨rfl,lB2,c2,vs2,by rw [HE.out];exact HMr.out⟩
      ·have dx:decide (xx<=hi)=false:=by simpa using hlt
       have HE:Hid (zT a hi q=j):=Zh (by have h1:=HJ.out;have h2:=HXJ.out;unfold zT at h1 |-;omega);clear zqk;go_wp2_with fail
       go_end0
       exact ⟨rfl,lB2,c2,vs2,by rw [HE.out];exact HMr.out⟩
  ·have d1:decide (lo<=0)=false:=by simpa using hlo
   have hmx:max lo 1=lo:=by omega
   have HAE:Hid (a=lo):=Zh (by rw [HA.out,if_neg (by omega),hmx]);clear HI;go_upto_region 6 with fail
   go_wp2_with fail
   go_loopw [7,8] (fun s7 _ wr=>∃(xx:Int) (j:Nat),s7= .int .i64 xx/\Hid (xx=a+j)/\0<=xx/\xx<=1099511627778/\Hid (j<=zT a hi q)/\Hid (wr.heap[W.heap.size]? =some (.cells #[.int .i64 lo,.int .i64 hi] 64 (0,0)))/\∃lB c vs,Hid (CMem w wr ⟨K,bx,br,bl,zd,n,mA,lA,mc,lc,gw⟩ D L (x0::tail) rest lv lB c (l++Zb tail a j) vs)) (fun s7 _ _=>(hi+1-intOf s7).toNat)
   case atStart=>
    have hba:=HA0.out;have zrF:=HAE.out;refine ⟨_,0,rfl,Zh (by omega),by omega,by omega,Zh (by omega),Zh (zg (Zi:Ext (W.alloc (.cells #[.int .i64 lo,.int .i64 hi] 64)) _) (heap_alloc_new W _)),lB,c,vs,Zh ?_⟩;have :=HM0.out.to (W':=(W.alloc (.cells #[.int .i64 lo,.int .i64 hi] 64)).drewN nq) Zi;simpa [Zb] using this
   case round=>
    obtain ⟨xx,j,rfl,HXJ,hx1,hx2,HJ,HBX,lB2,c2,vs2,HMr⟩:=hrel;clear q0 q1 q2 q3 q4 q5 q6 q7 oK;obtain ⟨b1,b2,b3,b4,b5⟩:=zK HBX.out;obtain ⟨q0,q1,q2,q3,q4,q5,q6,q7⟩:=HMr.out.kc;simp only at q0 q1 q2 q3 q4 q5 q6 q7;obtain ⟨lq,hlq⟩:∃lq,(l++Zb tail a j).length=lq:=⟨_,rfl⟩;have zqk:lq=q+j:=by rw [<-hlq,List.length_append,Jp,HQ.out]
    rw [hlq] at q5;have HLQ:=Zh hlq;have HLQ':=Zh zqk;have oK2:Old K wr:=⟨q7⟩;have oB2:Old W.heap.size wr:=⟨b5⟩;clear hlq;by_cases hlt:xx<=hi
    ·have dx:decide (xx<=hi)=true:=by simpa using hlt
     by_cases hq:lq<=4096
     ·have dq:decide (lq<=4096)=true:=by simpa using hq
      have zp7:=HMr.out.ls.own;simp only at zp7;rw [HLQ.out] at zp7;have HO:=Zh zp7;have zqf:=HMr.out.sz;have hKb:=HMr.out.bK;simp only at zqf hKb;have hkb:=HMr.out.kb;unfold Lay.obj at hkb;simp only at hkb;rw [HLQ.out] at hkb;have HKB:=Zh hkb;have hcl:=fun W' (hh:Ext wr W')=>Jk (w:=W') (c:=n) HMr.out.xr.ints (by rw [HN1.out];omega)
      simp only at hcl;unfold Jj at hcl;rw [HN1.out] at hcl;have HCL:=Zh hcl;have hrl:Hid (((x0::tail).map (Value.int .i64))[0]? =some (.int .i64 x0)):=Zh rfl;clear zqk zp7 hkb hcl;go_wp2_with (first
       |(go_at_call 84;refine (HCL.out _ Zi).mono ?_;rintro e w2 ⟨B2,d2,rfl,hO2,hs2⟩;obtain ⟨g,rfl,hg1,hg2,hg3,hg4⟩:=hO2.open_ (by omega);obtain ⟨g5,g6⟩:=hg3 0 _ hrl.out;have hcp:=hO2.cap;have HO3:=Zh (hg4 0 (.int .i64 xx) (by omega));have nG:New g wr:=⟨hg1⟩;have aK:Apart K g:=⟨by omega⟩;have aB:Apart W.heap.size g:=⟨by omega⟩;clear hg3 hg4 hO2)
       |(at_builtin;refine zI _ rfl _ _ 26 rfl zd 37 (.slice none 0 0) 1 24 Tryz.underlying26 qA rfl (by omega) (by omega) lB2 lq c2 vs2 rfl (HO.out.ext Zi) _ 1 1 [.slice (some ⟨g,0,none⟩) n d2] rfl (JT w2 ⟨g,0,none⟩ (.int .i64 xx) 37 #[.slice (some ⟨g,0,none⟩) n d2]) (by simp) (by simp [Value.oneCell']) (by omega) (by have :=hs2.size;simp;omega) ?_;intro A4 d4 w4 zqd zqj;have hk4:=(zqj.below.block K hKb).trans (zg (Zi:Ext wr ((w2.setCell ⟨g,0,none⟩ (.int .i64 xx)).alloc (Obj.cells #[Value.slice (some ⟨g,0,none⟩) n d2] 37))) HKB.out);have k41:w4.cell? ⟨K,5,none⟩=some (.slice lB2 lq c2):=(by simp [World.cell?,hk4]);have k42:w4.frozen? ⟨K,5,none⟩=false:=(by simp [World.frozen?,hk4]);have k43:K<w4.heap.size:=zA hk4;clear hk4))
      have hxW3:Ext wr ((w2.setCell ⟨g,0,none⟩ (.int .i64 xx)).alloc (Obj.cells #[Value.slice (some ⟨g,0,none⟩) n d2] 37)):=Zi;have hn1:=HN1.out;have hr3:ArrX zd ((w2.setCell ⟨g,0,none⟩ (.int .i64 xx)).alloc (Obj.cells #[Value.slice (some ⟨g,0,none⟩) n d2] 37)) (some ⟨g,0,none⟩) 2 ((xx::tail).map (Value.int .i64)):=((HO3.out.arrX).lower zqf).ext Zi;have zqa:=HMr.out.snoc hxW3 (r:=xx::tail) (A4:=A4) (B:=some ⟨g,0,none⟩) (d4:=d4) (d:=d2) zqj (by rw [HLQ.out,show (xx::tail).length=n from hn1];exact zqd) hr3 (by rw [show (xx::tail).length=n from hn1];exact hcp.1) hcp.2
      simp only at zqa;rw [HLQ.out,List.append_assoc,show xx=a+(j:Int) from HXJ.out,<-JS] at zqa;have hb4:=Zj (p:=⟨K,5,none⟩) (zqj.heap (zg hxW3 HBX.out) (by decide)) (show W.heap.size≠K from zW HBX.out HMr.out.kb (by decide)) (.slice A4 (lq+1) d4);have hba:=HA0.out;have zrG:=HLQ'.out;have hxj:=HXJ.out;have dx':=of_decide_eq_true dx;have dq':=of_decide_eq_true dq;refine ⟨⟨xx+1,j+1,rfl,Zh (by omega),by omega,by omega,Zh (by unfold zT;omega),Zh hb4,A4,d4,_,Zh zqa⟩,by simp [intOf];omega⟩
     ·have dq:decide (lq<=4096)=false:=by simpa using hq
      have HE:Hid (zT a hi q=j):=Zh (by have :=HJ.out;unfold zT at this |-;omega);clear zqk;go_wp2_with fail
      go_end0
      exact ⟨rfl,lB2,c2,vs2,by rw [HE.out];exact HMr.out⟩
    ·have dx:decide (xx<=hi)=false:=by simpa using hlt
     have HE:Hid (zT a hi q=j):=Zh (by have h1:=HJ.out;have h2:=HXJ.out;unfold zT at h1 |-;omega);clear zqk;go_wp2_with fail
     go_end0
     exact ⟨rfl,lB2,c2,vs2,by rw [HE.out];exact HMr.out⟩
def z7 (D:List Int) (L:List (List Int)) (k:Nat) (x rest:List Int) (hi:Int):Lvl:=⟨vD D (k+1),zC (L.getD k []) (x.drop (k+1)),rest.getD (k+1) 0*vD D k,hi⟩
def qD (v:Lvl) (a:Int):Int:=(v.lim-zM v.mi v.sh a*zM v.mi v.sh a) / v.mi
def zaG (n:Nat) (x:List Int) (lv:List Lvl):Nat->Nat->Option Nat
 |0,_=>none
 |f+1,k=>if k<n then (if x.getD k 0<(lv.getD k ⟨0,0,0,0⟩).hi then some k else zaG n x lv f (k+1)) else none
def qw (n:Nat) (x:List Int) (lv:List Lvl) (k:Nat):Option Nat:=zaG n x lv (n-k) k
theorem zfx {n:Nat} {x:List Int} {lv:List Lvl} {k:Nat} (h:¬k<n):qw n x lv k=none:=by
 unfold qw;rw [show n-k=0 by omega];rfl
theorem zfy {n:Nat} {x:List Int} {lv:List Lvl} {k:Nat} (h:k<n):qw n x lv k=if x.getD k 0<(lv.getD k ⟨0,0,0,0⟩).hi then some k else qw n x lv (k+1):=by
 unfold qw;rw [show n-k=(n-(k+1))+1 by omega,zaG,if_pos h]
def QS (k:Nat) (x:List Int) (lo hi:Int) (l:List (List Int)):List (List Int):=if k=0 then l++Zb x.tail (qd x.tail lo) (zT (qd x.tail lo) hi l.length) else l
def qe (D:List Int) (L:List (List Int)) (n:Nat):List (Int×Int)->Nat->List Int->List Int->List Lvl->List (List Int)->Option (List (List Int))
 |[],_,_,_,_,_=>none
 |(lo,hi)::C,k,x,rest,lv,l=>
  let v:=z7 D L k x rest hi
  let lv':=lv.set k v
  if Z2 v.mi v.sh v.lim lo hi then
   if 0<k/\lo<=hi then qe D L n C (k-1) (x.set k lo) (rest.set k (qD v lo)) lv' l
   else match qw n x lv' (k+1) with
    |some k1=>qe D L n C (k1-1) (x.set k1 (x.getD k1 0+1)) (rest.set k1 (qD (lv'.getD k1 ⟨0,0,0,0⟩) (x.getD k1 0+1))) lv' (QS k x lo hi l)
    |none=>if C=[] then some (QS k x lo hi l) else none
  else none
structure ChkInv (D:List Int) (L:List (List Int)) (n:Nat) (za:Int) (k:Nat) (x rest:List Int) (lv:List Lvl):Prop where
 kn:k<n
 xl:x.length=n
 rl:rest.length=n+1
 ll:lv.length=n
 xb:∀y∈x,-1099511627776<=y/\y<=1099511627776
 rs:∀j,k<j->j<=n->0<=rest.getD j 0/\rest.getD j 0<=vD D j*za
 lo:∀j,k<j->j<n->(lv.getD j ⟨0,0,0,0⟩)=z7 D L j x rest (lv.getD j ⟨0,0,0,0⟩).hi/\Za (z7 D L j x rest 0).mi (z7 D L j x rest 0).sh (z7 D L j x rest 0).lim (x.getD j 0)=true/\Za (z7 D L j x rest 0).mi (z7 D L j x rest 0).sh (z7 D L j x rest 0).lim (lv.getD j ⟨0,0,0,0⟩).hi=true/\(lv.getD j ⟨0,0,0,0⟩).hi<=1099511627776
structure ChkN (D:List Int) (L:List (List Int)) (n:Nat) (za:Int):Prop where
 n1:1<=n
 n8:n<=8
 dl:D.length=n+1
 ll:L.length=n
 row:∀k,k<n->(L.getD k []).length=n-1-k
 d1:∀k,k<=n->1<=vD D k
 d2:∀k,k<=n->vD D k<65536
 lam:∀k,k<n->∀x∈L.getD k [],-(vD D (k+1))<=2*x/\2*x<=vD D (k+1)
 b0:0<=za
 big:∀k,k<n->vD D (k+1)*za*vD D k<18446744073709551616
theorem zfz {mi sh lim a b c:Int} (hm:1<=mi) (ha:Za mi sh lim a=true) (hc:Za mi sh lim c=true) (h1:a<=b) (h2:b<=c):Za mi sh lim b=true:=by
 simp only [Za,Bool.not_eq_true',decide_eq_false_iff_not] at*
 have m1:mi*a<=mi*b:=Int.mul_le_mul_of_nonneg_left h1 (by omega);have m2:mi*b<=mi*c:=Int.mul_le_mul_of_nonneg_left h2 (by omega);have u1:zM mi sh a<=zM mi sh b:=by unfold zM;omega
 have u2:zM mi sh b<=zM mi sh c:=by unfold zM;omega
 generalize zM mi sh a=p at*
 generalize zM mi sh b=q at*
 generalize zM mi sh c=r at*
 rcases Int.le_total 0 q with h |h
 ·have :q*q<=r*r:=Int.mul_le_mul u2 u2 h (by omega);omega
 ·have :(-q)*(-q)<=(-p)*(-p):=Int.mul_le_mul (by omega) (by omega) (by omega) (by omega);rw [Int.neg_mul_neg,Int.neg_mul_neg] at this;omega
theorem zbs {mi sh lim a:Int} (h:Za mi sh lim a=true):zM mi sh a*zM mi sh a<=lim:=by
 simp only [Za,Bool.not_eq_true',decide_eq_false_iff_not] at h;omega
theorem zfA {mi sh lim lo hi:Int} (h:Z2 mi sh lim lo hi=true):-1099511627776<=lo/\hi<=1099511627776/\lo-1<=hi/\(lo<=hi->Za mi sh lim lo=true/\Za mi sh lim hi=true):=by
 unfold Z2 at h;split at h
 ·cases h
 ·split at h
  ·cases h
  ·refine ⟨by omega,by omega,by omega,fun hl=>?_⟩;rw [if_pos hl] at h;simpa using h
theorem Jq {α:Type} (l:List α) (i j:Nat) (a d:α) (h:i≠j):(l.set i a).getD j d=l.getD j d:=by
 simp [List.getD_eq_getElem?_getD,List.getElem?_set_ne h]
theorem jh {α:Type} (l:List α) (i:Nat) (a d:α) (h:i<l.length):(l.set i a).getD i d=a:=by
 simp [List.getD_eq_getElem?_getD,List.getElem?_set_self h]
theorem JU {D:List Int} {L:List (List Int)} {j k:Nat} {x rest:List Int} {a b hi:Int} (h:k<=j):z7 D L j (x.set k a) (rest.set k b) hi=z7 D L j x rest hi:=by
 unfold z7;rw [List.drop_set_of_lt (by omega),Jq _ _ _ _ _ (by omega)]
theorem ChkInv.mono {D:List Int} {L:List (List Int)} {n:Nat} {za:Int} {k k1:Nat} {x rest:List Int} {lv:List Lvl} (h:ChkInv D L n za k x rest lv) (h1:k<=k1) (h2:k1<n):ChkInv D L n za k1 x rest lv:=
 ⟨h2,h.xl,h.rl,h.ll,h.xb,fun j a b=>h.rs j (by omega) b,fun j a b=>h.lo j (by omega) b⟩
theorem ChkInv.setLv {D:List Int} {L:List (List Int)} {n:Nat} {za:Int} {k:Nat} {x rest:List Int} {lv:List Lvl} (h:ChkInv D L n za k x rest lv) (v:Lvl):ChkInv D L n za k x rest (lv.set k v):=
 ⟨h.kn,h.xl,h.rl,by rw [List.length_set];exact h.ll,h.xb,h.rs,fun j a b=>by rw [Jq _ _ _ _ _ (by omega)];exact h.lo j a b⟩
theorem ChkInv.next {D:List Int} {L:List (List Int)} {n:Nat} {za:Int} {k:Nat} {x rest:List Int} {lv:List Lvl} {a:Int} (hN:ChkN D L n za) (h:ChkInv D L n za k x rest lv) (hk:1<=k) (hv:lv.getD k ⟨0,0,0,0⟩=z7 D L k x rest (lv.getD k ⟨0,0,0,0⟩).hi)
  (ha:Za (z7 D L k x rest 0).mi (z7 D L k x rest 0).sh (z7 D L k x rest 0).lim a=true) (hh:Za (z7 D L k x rest 0).mi (z7 D L k x rest 0).sh (z7 D L k x rest 0).lim (lv.getD k ⟨0,0,0,0⟩).hi=true) (hb:(lv.getD k ⟨0,0,0,0⟩).hi<=1099511627776) (a1:-1099511627776<=a) (a2:a<=1099511627776):
  ChkInv D L n za (k-1) (x.set k a) (rest.set k (qD (lv.getD k ⟨0,0,0,0⟩) a)) lv:=by
 have hkn:=h.kn;refine ⟨by omega,by rw [List.length_set];exact h.xl,by rw [List.length_set];exact h.rl,h.ll,fun y hy=>?_,fun j j1 j2=>?_,fun j j1 j2=>?_⟩
 ·rcases List.mem_or_eq_of_mem_set hy with hy |rfl
  ·exact h.xb y hy
  ·exact ⟨a1,a2⟩
 ·rcases Zl k j with hj |hj
  ·rw [Jq _ _ _ _ _ (by omega)];exact h.rs j hj j2
  ·obtain rfl:j=k:=by omega
   rw [jh _ _ _ _ (by rw [h.rl];omega),hv];have hle:=zbs ha;obtain ⟨r0,r1⟩:=h.rs (j+1) (by omega) (by omega);have d1:=hN.d1 (j+1) (by omega);have d0:=hN.d1 j (by omega);simp only [qD,z7] at hle |-
   generalize zM (vD D (j+1)) (zC (L.getD j []) (x.drop (j+1))) a=u at hle |-
   have u0:0<=u*u:=by
    rcases Int.le_total 0 u with hu |hu
    ·exact Int.mul_nonneg hu hu
    ·exact Int.mul_nonneg_of_nonpos_of_nonpos hu hu
   constructor
   ·exact Int.ediv_nonneg (by omega) (by omega)
   ·have hm:rest.getD (j+1) 0*vD D j<=vD D (j+1)*za*vD D j:=Int.mul_le_mul_of_nonneg_right r1 (by omega);have :(rest.getD (j+1) 0*vD D j-u*u) / vD D (j+1)<=(vD D j*za*vD D (j+1)) / vD D (j+1):=by
     apply Int.ediv_le_ediv (by omega);rw [show vD D j*za*vD D (j+1)=vD D (j+1)*za*vD D j by rw [Int.mul_comm (vD D j*za),Int.mul_comm (vD D j),<-Int.mul_assoc]];omega
    rwa [Int.mul_ediv_cancel _ (by omega)] at this
 ·rcases Zl k j with hj |hj
  ·have :=h.lo j hj j2;rw [JU (by omega),JU (by omega),Jq x _ _ _ _ (by omega)];exact this
  ·obtain rfl:j=k:=by omega
   rw [JU (by omega),JU (by omega),jh x _ _ _ (by rw [h.xl];omega)];exact ⟨hv,ha,hh,hb⟩
theorem ChkInv.lev {D:List Int} {L:List (List Int)} {n:Nat} {za:Int} {k:Nat} {x rest:List Int} {lv:List Lvl} (hN:ChkN D L n za) (h:ChkInv D L n za k x rest lv):LevN D L n k x (rest.getD (k+1) 0) (vD D k) (vD D (k+1)) (L.getD k []):=by
 have hkn:=h.kn;have hdl:=hN.dl;have hll:=hN.ll;obtain ⟨r0,r1⟩:=h.rs (k+1) (by omega) (by omega);have d0:=hN.d1 k (by omega);have d1:=hN.d2 k (by omega);have c0:=hN.d1 (k+1) (by omega);have c1:=hN.d2 (k+1) (by omega);refine ⟨hkn,hN.n8,?_,?_,?_,hN.row k hkn,fun a ha=>?_,h.xb,r0,?_,d0,d1,c0,c1⟩
 ·unfold vD;simp [show k<D.length by omega]
 ·unfold vD;simp [show k+1<D.length by omega]
 ·simp [show k<L.length by omega]
 ·have :=hN.lam k hkn a ha;omega
 ·have :=hN.big k hkn;have hm:rest.getD (k+1) 0*vD D k<=vD D (k+1)*za*vD D k:=Int.mul_le_mul_of_nonneg_right r1 (by omega);omega
end Go.Proofs.YtjehjkipcaohpaaGreat
