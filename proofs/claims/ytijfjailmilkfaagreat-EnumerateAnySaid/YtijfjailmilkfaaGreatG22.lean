/- R10i R10e R10f R11a R11b R11c R11d -/
import Derived.Test.YtijfjailmilkfaaGreatG21
import Derived.Test.YtijfjailmilkfaaGreatProg
import Derived.Test.YtijfjailmilkfaaGreatShelf
set_option maxHeartbeats 8000000
set_option linter.unusedVariables false
set_option linter.unusedSimpArgs false
set_option linter.constructorNameAsVariable false
namespace Go.Proofs.YtijfjailmilkfaaGreat
open Go.RowKit
open La
set_option maxRecDepth 20000 in
theorem rInterval_ok {w0 w1 w:World} {m:List (List Int)} {t:List Int} {SB DB TA:Option Addr} {sc dc tc n s q:Nat} {bound:Int} (hF':FrV w0 m SB DB) (hL:LLLed m) (h1:m.length=n) (hq:n=s+q+1) (hT:Ints w1 TA 2 .i64 t) (htl:t.length=q) (htb:∀a∈t,-9223372036854775808<=a/\a<=9223372036854775807) (hb0:-9223372036854775808<=bound) (hb1:bound<=9223372036854775807) (h0:0<=left (ent m) bound (s+1) t)
  (hl0:-9223372036854775808<=tLo m bound s t) (hl1:tLo m bound s t<=9223372036854775807) (hh0:-9223372036854775808<=tHi m bound s t) (hh1:tHi m bound s t<=9223372036854775807) [hx:Ext w0 w] [hy:Ext w1 w]:
  Calls Tryz.prog 114 #[.agg #[.int .i64 n,.slice SB n sc,.slice DB (n+1) dc],.int .i64 bound,.slice TA q tc] w (RetVal w (.tuple #[.int .i64 (tLo m bound s t),.int .i64 (tHi m bound s t)])):=by
 have hr:=red_ok hL.red
 have hn8:=hL.len8
 have hs:s<m.length:=by omega
 obtain ⟨e1,e2,e3,e4⟩:=ival_eq hr hs bound t (by omega) h0
 have hF:=hF'.ext hx
 have hB:=ivB hL (s:=s) (q:=q) (t:=t) (bound:=bound) (by omega) htl htb hb0 hb1
 -- the memory of the stage
 have hms:((List.range m.length).map (stM m))[s]? =some (stM m s):=by simp [hs]
 obtain ⟨bs,os,BM,cM,rfl,g1,hM,-,-,g2⟩:=hF.1.at_ hms
 rw [stM_len,show m.length-s=q+1 by omega] at g1
 obtain ⟨bm,om,B0,c0,rfl,g3,hI0,g4,g5,g6⟩:=hM.at_ (stM_row (m:=m) (s:=s) (i:=0) (by omega))
 have hrl:∀i,((List.range (m.length-s)).map fun j=>fB m s i j).length=q+1:=fun i=>by simp;omega
 rw [hrl] at g3 g4
 obtain ⟨b0,o0,gE,BE,kE,dE,rfl,p1,p2,hzE,p3⟩:=hI0.atD (i:=0) (by rw [hrl];omega)
 have hE0:((List.range (m.length-s)).map fun j=>fB m s 0 j).getD 0 0=fB m s 0 0:=by
  have :0<m.length-s:=by omega
  simp [List.getD,this]
 rw [hE0] at hzE
 obtain ⟨bd,od,gD,BD,kD,dD,rfl,d1,d2,hzD,d3⟩:=hF.2.atD (i:=s) (by rw [List.length_cons,leadF_len];omega)
 have hDs:(1::leadF m).getD s 0=lastE (ent m) s:=by
  cases s with
  |zero=>rfl
  |succ s=>rw [List.getD_cons_succ,lead_get hL.pos (by omega)];rfl
 rw [hDs] at hzD
 have HROW:Hid (∀i,i<=q->∃bi oi ci,w.cell? ⟨bm,om+i,none⟩=some (.slice (some ⟨bi,oi,none⟩) (q+1) ci)/\IntsV w (some ⟨bi,oi+2,none⟩) (rowD m s i)/\q+1<=ci/\ci<=9223372036854775807):=Lib.hid (fun i hi=>by
  obtain ⟨b',o',Bi,ci,e,a1,a2,a3,a4,-⟩:=hM.at_ (stM_row (m:=m) (s:=s) (i:=i) (by omega))
  injection e with e
  injection e with x1 x2
  subst x1 x2
  rw [hrl] at a1 a3
  obtain ⟨bi,oi,-,-,-,-,rfl,-⟩:=a2.atD (i:=0) (by rw [hrl];omega)
  exact ⟨bi,oi,ci,a1,a2.drop 1,a3,a4⟩)
 obtain ⟨b0',o0',c0',f1,hR0,f3,f4⟩:=HROW.out 0 (by omega)
 rw [Nat.add_zero] at f1 g3
 rw [g3] at f1
 injection f1 with f1
 injection f1 with x1 x2 x3
 injection x1 with x1
 injection x1 with x1 x4
 subst x1 x4 x3
 simp only [Nat.zero_mul,Nat.add_zero] at p1 p2
 have HCO:Hid (∀W,Ext w1 W->Calls Tryz.prog 123 #[.slice TA q tc] W (RetIntsL W t)):=Lib.hid (fun W e=>by
  have :=rColumn_ok (w:=W) (c:=tc) hT (by omega) htb
  rwa [htl] at this)
 have HDT:Hid (∀(W1 W2 W:World) (A1 A2:Option Addr) (c1 c2 i:Nat),IntsV W1 A1 (rowD m s i)->IntsV W2 A2 t->Ext W1 W->Ext W2 W->Calls Tryz.prog 124 #[.slice A1 q c1,.slice A2 q c2] W (RetInt W (fD m s q t i))):=Lib.hid (fun W1 W2 W A1 A2 c1 c2 i i1 i2 x1 x2=>
  rDot_ok i1 i2 (rowD_len (by omega)) htl (by omega) (k:=51200) (by omega) (rowD_bd (fB_bd hL hs)) (fun i=>(bdL_64 htb i).mono (by omega)))
 have hnq:(n:Int)-(q:Int)=((s+1:Nat):Int):=by omega
 have hns:((s+1:Nat):Int)-1=(s:Int):=by omega
 have hw1:IntKind.i64.wrap ((n:Int)-(q:Int))=((s+1:Nat):Int):=by rw [hnq];exact IntWalk.i64_in _ (by omega)
 have hw2:IntKind.i64.wrap (((s+1:Nat):Int)-1)=(s:Int):=by rw [hns];exact IntWalk.i64_in _ (by omega)
 have hsn:s<n:=by omega
 have HTL:=Lib.hid htl
 rw [<-hB.fL] at e1 e2 e3
 have HB:=Lib.hid hB
 have HE:=Lib.hid (And.intro e1 (And.intro e2 (And.intro e3 e4)))
 generalize tLo m bound s t=lo at*
 generalize tHi m bound s t=hi at*
 have HLO:=Lib.hid (And.intro hl0 hl1)
 have HHI:=Lib.hid (And.intro hh0 hh1)
 clear e1 e2 e3 hl0 hl1 hh0 hh1 hB hrl hM hI0 hF hF' hms hE0 hDs h0 hr hL hT htb htl hs x2 hnq hns
 have hn9:n<=8:=by omega
 have hqn:q<n:=by omega
 have HQ:Hid (m.length=s+q+1):=Lib.hid (by omega)
 clear hq hn8 h1
 have oa:Old bs w:=⟨g2⟩
 have ob:Old bm w:=⟨g6⟩
 have oc:Old b0 w:=⟨p3⟩
 have ox4:Old bd w:=⟨d3⟩
 have HZE:=Lib.hid hzE
 have HZD:=Lib.hid hzD
 have HR0:=Lib.hid hR0
 clear hzE hzD hR0
 go_enter Tryz.func114,Tryz.ntmps114
 go_upto_region 4 with (go_at_call 123;refine (HCO.out _ inferInstance).mono ?_;rintro e w3 ⟨A3,c3,rfl,hI3,hc31,hc32,hs3⟩;have HI3:=Lib.hid hI3;clear hI3;rw [HTL.out] at hc31 |-)
 have HR1:Hid (q=0->∀W,IntsV W (some ⟨b0,o0,none⟩) (rowD m s 0)):=Lib.hid (fun e W=>by
  have :rowD m s 0=[]:=List.eq_nil_of_length_eq_zero (by rw [rowD_len (q:=q) (HQ.out)];exact e)
  rw [this];exact IntsV.nil _ _)
 have hxf:Ext (w.alloc (.cells #[.int .i64 n,.slice (some ⟨bs,os,none⟩) n sc,.slice (some ⟨bd,od,none⟩) (n+1) dc] 106)) w3:=inferInstance
 go_cut [11] (fun s11 wx=>∃p,s11= .pointer (some ⟨p,0,none⟩)/\Hid (Box wx p (fD m s q t 0))/\Ext w3 wx)
 case first=>
  go_wp2_with fail
  ·refine (HDT.out w3 w3 w3 _ _ _ _ 0 (HR1.out (by omega) _) HI3.out inferInstance inferInstance).mono ?_
   rintro e w4 ⟨g4,B4,k4,d4,rfl,hz4,hs4⟩
   go_wp2_with fail
   go_meet
   exact ⟨_,rfl,Lib.hid ⟨g4,B4,k4,d4,BlkAt.eq,hz4.keeps⟩,inferInstance⟩
  ·refine (HDT.out w w3 w3 _ _ _ _ 0 HR0.out HI3.out inferInstance inferInstance).mono ?_
   rintro e w4 ⟨g4,B4,k4,d4,rfl,hz4,hs4⟩
   go_wp2_with fail
   go_meet
   exact ⟨_,rfl,Lib.hid ⟨g4,B4,k4,d4,BlkAt.eq,hz4.keeps⟩,inferInstance⟩
 case rest=>
  obtain ⟨wl,rfl⟩:∃wl:World,wl=wc:=⟨_,rfl⟩
  obtain ⟨p,rfl,HBX,hxc⟩:=hcut
  obtain ⟨gl,Bl,kl,dl,hbkl,l1,l2,l3,l4,l5,hzl⟩:=HBX.out.cells
  have oP:Old p wl:=⟨l5⟩
  have HZL:=Lib.hid hzl
  have HCL:=Lib.hid (And.intro l1 l2)
  have hx3:Ext w3 wl:=hxc
  have hxw:Ext w wl:=(inferInstance:Ext w w3).trans hxc
  clear hbkl hzl l1 l2 l3 l4
  go_wp2_with fail
  go_loopw [42] (fun i wr=>∃k:Nat,k<=q/\i= .int .i64 k/\Hid (Box wr wl.heap.size (sumR k fun i=>t.getD i 0*fD m s q t (i+1)))/\Ext wl wr) (fun i _=>q-(intOf i).toNat)
  case atStart=>
   refine ⟨0,by omega,rfl,Lib.hid ⟨false,none,0,0,?_,IntV.zero _ _ _ (by omega)⟩,inferInstance⟩
   exact BlkAt.eq
  case round=>
   obtain ⟨k,hk,rfl,HC,hxr⟩:=hrel
   have hxwr:Ext w wr:=hxw.trans hxr
   have hx3r:Ext w3 wr:=hx3.trans hxr
   by_cases hlt:k<q
   ·obtain ⟨gc,Bc,kc,dc',hbkc,r1,r2,r3,r4,r5,hzc⟩:=HC.out.cells
    obtain ⟨by_,oy,gy,By,ky,dy,rfl,y1,y2,hzy,y3⟩:=(HI3.out.ext hx3r).atD (i:=k) (by rw [HTL.out];exact hlt)
    obtain ⟨bi,oi,ci,i1,hIi,i3,i4⟩:=HROW.out (k+1) (by omega)
    have hi1:wr.cell? ⟨bm,om+(k+1),none⟩=some (.slice (some ⟨bi,oi,none⟩) (q+1) ci):=(cellE w).trans i1
    have HS:=Lib.hid (And.intro r1 (And.intro r2 (And.intro y1 (And.intro y2 hi1))))
    have oC:Old wl.heap.size wr:=⟨r5⟩
    have oY:Old by_ wr:=⟨y3⟩
    have oM:Old bm wr:=⟨Nat.lt_of_lt_of_le g6 hxwr.size⟩
    have HZC:=Lib.hid hzc
    have HZY:=Lib.hid hzy
    have HII:=Lib.hid hIi
    have HBK:=Lib.hid hbkc
    have HNX:Hid ((sumR k fun i=>t.getD i 0*fD m s q t (i+1))+t.getD k 0*fD m s q t (k+1)=sumR (k+1) fun i=>t.getD i 0*fD m s q t (i+1)):=Lib.hid (by rw [sumR_succ])
    have HB1:=Lib.hid (HB.out.c k (by omega))
    have HF3:=Lib.hid (And.intro r3 r4)
    generalize (sumR k fun i=>t.getD i 0*fD m s q t (i+1))=ck at*
    have hwk:IntKind.i64.wrap ((k:Int)+1)=((k+1:Nat):Int):=IntWalk.i64_in _ (by omega)
    have hci:1<ci:=by omega
    have hci2:ci≠1:=by omega
    have hk0:(0:Int)<=(k:Int)+1:=by omega
    have hq1:(1:Int)<=(q:Int)+1:=by omega
    have hq2:(q:Int)+1<=(ci:Int):=by omega
    have hk1:(k:Int)+1<(q:Int)+1:=by omega
    clear hbkc r1 r2 r3 r4 hzc y1 y2 hzy i1 hIi hi1
    go_wp2_with fail
    have a1:wr.cell? ⟨wl.heap.size,0,none⟩=some (.bool gc):=HS.out.1
    have a2:wr.cell? ⟨wl.heap.size,1,none⟩=some (.slice Bc kc dc'):=HS.out.2.1
    have a3:wr.cell? ⟨by_,oy+k*2,none⟩=some (.bool gy):=HS.out.2.2.1
    have a4:wr.cell? ⟨by_,oy+k*2+1,none⟩=some (.slice By ky dy):=HS.out.2.2.2.1
    have a5:wr.cell? ⟨bm,om+(k+1),none⟩=some (.slice (some ⟨bi,oi,none⟩) (q+1) ci):=HS.out.2.2.2.2
    go_region_law (first
     |(go_simp;go_at_call 124;refine (HDT.out w w3 _ _ _ _ _ (k+1) HII.out HI3.out inferInstance inferInstance).mono ?_;rintro e w5 ⟨g5,B5,k5,d5,rfl,hz5,hs5⟩;have b1:w5.cell? ⟨wl.heap.size,0,none⟩=some (.bool gc):=(cellE wr).trans HS.out.1;have b2:w5.cell? ⟨wl.heap.size,1,none⟩=some (.slice Bc kc dc'):=(cellE wr).trans HS.out.2.1;have b3:w5.cell? ⟨by_,oy+k*2,none⟩=some (.bool gy):=(cellE wr).trans HS.out.2.2.1;have b4:w5.cell? ⟨by_,oy+k*2+1,none⟩=some (.slice By ky dy):=(cellE wr).trans HS.out.2.2.2.1;have b5:w5.cell? ⟨bm,om+(k+1),none⟩=some (.slice (some ⟨bi,oi,none⟩) (q+1) ci):=(cellE wr).trans HS.out.2.2.2.2)
     |(go_simp;go_at_call 181;refine (rMulB HZY.out hz5 (HB.out.y k) (HB.out.d (k+1))).mono ?_;rintro e w6 ⟨g6',B6,k6,d6,rfl,hz6,hs6⟩;have c1:w6.cell? ⟨wl.heap.size,0,none⟩=some (.bool gc):=(cellE wr).trans HS.out.1;have c2:w6.cell? ⟨wl.heap.size,1,none⟩=some (.slice Bc kc dc'):=(cellE wr).trans HS.out.2.1;have c3:w6.cell? ⟨by_,oy+k*2,none⟩=some (.bool gy):=(cellE wr).trans HS.out.2.2.1;have c4:w6.cell? ⟨by_,oy+k*2+1,none⟩=some (.slice By ky dy):=(cellE wr).trans HS.out.2.2.2.1;have c5:w6.cell? ⟨bm,om+(k+1),none⟩=some (.slice (some ⟨bi,oi,none⟩) (q+1) ci):=(cellE wr).trans HS.out.2.2.2.2)
     |(go_simp;go_at_call 180;refine (rAddB HZC.out hz6 HB1.out (HB.out.p k)).mono ?_;rintro e w7 ⟨g7,B7,k7,d7,rfl,hz7,hs7⟩;rw [HNX.out] at hz7;have f1:w7.frozen? ⟨wl.heap.size,0,none⟩=false:=(frozenE wr).trans HF3.out.1;have f2:w7.frozen? ⟨wl.heap.size,1,none⟩=false:=(frozenE wr).trans HF3.out.2;have d1:w7.cell? ⟨wl.heap.size,0,none⟩=some (.bool gc):=(cellE wr).trans HS.out.1;have d2:w7.cell? ⟨wl.heap.size,1,none⟩=some (.slice Bc kc dc'):=(cellE wr).trans HS.out.2.1;have d3:w7.cell? ⟨by_,oy+k*2,none⟩=some (.bool gy):=(cellE wr).trans HS.out.2.2.1;have d4:w7.cell? ⟨by_,oy+k*2+1,none⟩=some (.slice By ky dy):=(cellE wr).trans HS.out.2.2.2.1;have d5:w7.cell? ⟨bm,om+(k+1),none⟩=some (.slice (some ⟨bi,oi,none⟩) (q+1) ci):=(cellE wr).trans HS.out.2.2.2.2))
    all_goals
     go_wp2
     refine ⟨⟨k+1,by omega,by go_num,Lib.hid ?_,?_⟩,by simp [intOf]<;>omega⟩
     ·exact Box.put (heap_of_ext (inferInstance:Ext wr w7) HBK.out) hz7
     ·exact ((hxr.trans (inferInstance:Ext wr w7)).setCell (p:=⟨wl.heap.size,0,none⟩) (Nat.le_refl _) _).setCell (p:=⟨wl.heap.size,1,none⟩) (Nat.le_refl _) _
   ·obtain rfl:k=q:=by omega
    have HC1:=HC.out
    rw [HB.out.fC] at HC1
    obtain ⟨gc,Bc,kc,dc',hbkc,r1,r2,r3,r4,r5,hzc⟩:=HC1.cells
    have HCS:=Lib.hid (show Bb (fC m s t) by have :=HB.out.c k (Nat.le_refl _);rwa [HB.out.fC] at this)
    have oC:Old wl.heap.size wr:=⟨r5⟩
    have HZC:=Lib.hid hzc
    have HBK:=Lib.hid hbkc
    have HF3:=Lib.hid (And.intro r3 r4)
    have hfb:wr.heap[w.heap.size]? =some (.cells #[.int .i64 n,.slice (some ⟨bs,os,none⟩) n sc,.slice (some ⟨bd,od,none⟩) (n+1) dc] 106 (0,0)):=heap_of_ext (hxf.trans hx3r) (heap_alloc_new w _)
    obtain ⟨⟨-,-,f2⟩,-,f5⟩:=blk3 hfb
    have oF:Old w.heap.size wr:=⟨f5⟩
    have oD:Old bd wr:=⟨Nat.lt_of_lt_of_le d3 hxwr.size⟩
    have oB:Old bm wr:=⟨Nat.lt_of_lt_of_le g6 hxwr.size⟩
    have oE:Old b0 wr:=⟨Nat.lt_of_lt_of_le p3 hxwr.size⟩
    have oP2:Old p wr:=⟨Nat.lt_of_lt_of_le l5 hxr.size⟩
    have e1:wr.cell? ⟨bd,od+s*2,none⟩=some (.bool gD):=(cellE w).trans d1
    have e2:wr.cell? ⟨bd,od+s*2+1,none⟩=some (.slice BD kD dD):=(cellE w).trans d2
    have HS:=Lib.hid (And.intro r1 (And.intro r2 (And.intro e1 (And.intro e2 f2))))
    have HSM:=Lib.hid (fun W=>rSmall_any bound hb0 hb1 W)
    have hsn2:(s:Int)<(n:Int)+1:=by omega
    clear hbkc r3 r4 hzc HC HC1 hfb
    go_wp2_with fail
    go_cut [] (fun wx=>Hid (Box wx wl.heap.size (fC m s t-bound*lastE (ent m) s))/\Ext wl wx)
    case first=>
     go_region_law (first
      |(go_simp;go_at_call 113;refine (HSM.out _).mono ?_;rintro e w5 ⟨g5,B5,k5,d5,rfl,hz5,hs5⟩;have b1:w5.cell? ⟨wl.heap.size,0,none⟩=some (.bool gc):=(cellE wr).trans HS.out.1;have b2:w5.cell? ⟨wl.heap.size,1,none⟩=some (.slice Bc kc dc'):=(cellE wr).trans HS.out.2.1;have b3:w5.cell? ⟨bd,od+s*2,none⟩=some (.bool gD):=(cellE wr).trans HS.out.2.2.1;have b4:w5.cell? ⟨bd,od+s*2+1,none⟩=some (.slice BD kD dD):=(cellE wr).trans HS.out.2.2.2.1;have b5:w5.cell? ⟨w.heap.size,2,none⟩=some (.slice (some ⟨bd,od,none⟩) (n+1) dc):=(cellE wr).trans HS.out.2.2.2.2)
      |(go_simp;go_at_call 181;refine (rMulB hz5 HZD.out HB.out.bo HB.out.ls).mono ?_;rintro e w6 ⟨g6',B6,k6,d6,rfl,hz6,hs6⟩;have c1:w6.cell? ⟨wl.heap.size,0,none⟩=some (.bool gc):=(cellE wr).trans HS.out.1;have c2:w6.cell? ⟨wl.heap.size,1,none⟩=some (.slice Bc kc dc'):=(cellE wr).trans HS.out.2.1;have c3:w6.cell? ⟨bd,od+s*2,none⟩=some (.bool gD):=(cellE wr).trans HS.out.2.2.1;have c4:w6.cell? ⟨bd,od+s*2+1,none⟩=some (.slice BD kD dD):=(cellE wr).trans HS.out.2.2.2.1;have c5:w6.cell? ⟨w.heap.size,2,none⟩=some (.slice (some ⟨bd,od,none⟩) (n+1) dc):=(cellE wr).trans HS.out.2.2.2.2)
      |(go_simp;go_at_call 182;refine (rSubB HZC.out hz6 HCS.out HB.out.bl).mono ?_;rintro e w7 ⟨g7,B7,k7,d7,rfl,hz7,hs7⟩;have f1:w7.frozen? ⟨wl.heap.size,0,none⟩=false:=(frozenE wr).trans HF3.out.1;have f2:w7.frozen? ⟨wl.heap.size,1,none⟩=false:=(frozenE wr).trans HF3.out.2;have d1:w7.cell? ⟨wl.heap.size,0,none⟩=some (.bool gc):=(cellE wr).trans HS.out.1;have d2:w7.cell? ⟨wl.heap.size,1,none⟩=some (.slice Bc kc dc'):=(cellE wr).trans HS.out.2.1;have d3:w7.cell? ⟨bd,od+s*2,none⟩=some (.bool gD):=(cellE wr).trans HS.out.2.2.1;have d4:w7.cell? ⟨bd,od+s*2+1,none⟩=some (.slice BD kD dD):=(cellE wr).trans HS.out.2.2.2.1;have d5:w7.cell? ⟨w.heap.size,2,none⟩=some (.slice (some ⟨bd,od,none⟩) (n+1) dc):=(cellE wr).trans HS.out.2.2.2.2))
     all_goals
      go_wp2
      go_meet
      exact ⟨Lib.hid (Box.put (heap_of_ext (inferInstance:Ext wr w7) HBK.out) hz7),((hxr.trans (inferInstance:Ext wr w7)).setCell (p:=⟨wl.heap.size,0,none⟩) (Nat.le_refl _) _).setCell (p:=⟨wl.heap.size,1,none⟩) (Nat.le_refl _) _⟩
    case rest=>
     obtain ⟨w2,rfl⟩:∃w2:World,w2=wc:=⟨_,rfl⟩
     obtain ⟨HC2,hx2⟩:=hcut
     have hxw2:Ext w w2:=hxw.trans hx2
     obtain ⟨gd,Bd',kd,dd',-,r1,r2,-,-,r5,hzc⟩:=HC2.out.cells
     have HZC2:=Lib.hid hzc
     have oC2:Old wl.heap.size w2:=⟨r5⟩
     have oB2:Old bm w2:=⟨Nat.lt_of_lt_of_le g6 hxw2.size⟩
     have oE2:Old b0 w2:=⟨Nat.lt_of_lt_of_le p3 hxw2.size⟩
     have oP3:Old p w2:=⟨Nat.lt_of_lt_of_le l5 hx2.size⟩
     have z1:w2.cell? ⟨p,0,none⟩=some (.bool gl):=(cellE wl).trans HCL.out.1
     have z2:w2.cell? ⟨p,1,none⟩=some (.slice Bl kl dl):=(cellE wl).trans HCL.out.2
     have z3:w2.cell? ⟨bm,om,none⟩=some (.slice (some ⟨b0,o0,none⟩) (k+1) c0):=(cellE w).trans g3
     have z4:w2.cell? ⟨b0,o0,none⟩=some (.bool gE):=(cellE w).trans p1
     have z5:w2.cell? ⟨b0,o0+1,none⟩=some (.slice BE kE dE):=(cellE w).trans p2
     have HS2:=Lib.hid (And.intro r1 (And.intro r2 (And.intro z1 (And.intro z2 (And.intro z3 (And.intro z4 z5))))))
     clear r1 r2 z1 z2 z3 z4 z5 hzc HBK HF3 HS HZC HCS HC2
     go_wp2_with fail
     go_cut [14] (fun s14 wx=>∃p4,s14= .pointer (some ⟨p4,0,none⟩)/\Hid (Box wx p4 (isq (fD m s k t 0*fD m s k t 0-fB m s 0 0*(fC m s t-bound*lastE (ent m) s)).toNat:Int))/\Ext w2 wx)
     case first=>
      go_region_held3 (fun w'=>w'.cell? ⟨wl.heap.size,0,none⟩=some (.bool gd)/\w'.cell? ⟨wl.heap.size,1,none⟩=some (.slice Bd' kd dd')/\w'.cell? ⟨p,0,none⟩=some (.bool gl)/\w'.cell? ⟨p,1,none⟩=some (.slice Bl kl dl)/\w'.cell? ⟨bm,om,none⟩=some (.slice (some ⟨b0,o0,none⟩) (k+1) c0)/\w'.cell? ⟨b0,o0,none⟩=some (.bool gE)/\w'.cell? ⟨b0,o0+1,none⟩=some (.slice BE kE dE))
       (exact ⟨(cellE w2).trans HS2.out.1,(cellE w2).trans HS2.out.2.1,(cellE w2).trans HS2.out.2.2.1,(cellE w2).trans HS2.out.2.2.2.1,(cellE w2).trans HS2.out.2.2.2.2.1,(cellE w2).trans HS2.out.2.2.2.2.2.1,(cellE w2).trans HS2.out.2.2.2.2.2.2⟩)
       (first
        |(go_at_call_of 181 (Value.agg #[.bool gl,.slice Bl kl dl]);refine (rMulB HZL.out HZL.out HB.out.l HB.out.l).mono ?_;rintro e w5 ⟨g5,B5,k5,d5,rfl,hz5,hs5⟩)
        |(go_at_call_of 181 (Value.agg #[.bool gE,.slice BE kE dE]);refine (rMulB HZE.out HZC2.out HB.out.b0 HB.out.c2).mono ?_;rintro e w6 ⟨g6',B6,k6,d6,rfl,hz6,hs6⟩)
        |(go_at_call 182;refine (rSubB hz5 hz6 HB.out.ll HB.out.bc).mono ?_;rintro e w7 ⟨g7,B7,k7,d7,rfl,hz7,hs7⟩)
        |(go_at_call 183;refine (rSqrtB hz7 HB.out.di HE.out.1).mono ?_;rintro e w8 ⟨g8,B8,k8,d8,rfl,hz8,hs8⟩))
      all_goals (go_wp2_with fail;go_meet;exact ⟨_,rfl,Lib.hid ⟨g8,B8,k8,d8,BlkAt.eq,hz8.keeps⟩,inferInstance⟩)
     case rest=>
      obtain ⟨w9,rfl⟩:∃w9:World,w9=wc:=⟨_,rfl⟩
      obtain ⟨p4,rfl,HR4,hx9⟩:=hcut
      obtain ⟨gr,Br,kr,dr,-,r1,r2,-,-,r5,hzr⟩:=HR4.out.cells
      have HZR:=Lib.hid hzr
      have oR9:Old p4 w9:=⟨r5⟩
      have hxw9:Ext w w9:=hxw2.trans hx9
      have hxl9:Ext wl w9:=hx2.trans hx9
      have HSS:=Lib.hid (And.intro (HB.out.rt HE.out.1) (And.intro (HB.out.df HE.out.1) (HB.out.sm HE.out.1)))
      have HE2:=Lib.hid HE.out.2
      generalize (isq (fD m s k t 0*fD m s k t 0-fB m s 0 0*(fC m s t-bound*lastE (ent m) s)).toNat:Int)=R at*
      have HKP:Hid (∀W,Ext w9 W->W.cell? ⟨p4,0,none⟩=some (.bool gr)/\W.cell? ⟨p4,1,none⟩=some (.slice Br kr dr)/\W.cell? ⟨p,0,none⟩=some (.bool gl)/\W.cell? ⟨p,1,none⟩=some (.slice Bl kl dl)/\W.cell? ⟨bm,om,none⟩=some (.slice (some ⟨b0,o0,none⟩) (k+1) c0)/\W.cell? ⟨b0,o0,none⟩=some (.bool gE)/\W.cell? ⟨b0,o0+1,none⟩=some (.slice BE kE dE)):=Lib.hid (fun W e=>by
       have e2:Ext w2 W:=hx9.trans e
       exact ⟨(cellE w9).trans r1,(cellE w9).trans r2,(cellE w2).trans HS2.out.2.2.1,(cellE w2).trans HS2.out.2.2.2.1,(cellE w2).trans HS2.out.2.2.2.2.1,(cellE w2).trans HS2.out.2.2.2.2.2.1,(cellE w2).trans HS2.out.2.2.2.2.2.2⟩)
      clear r1 r2 hzr HR4
      go_wp2_with fail
      go_cut [16] (fun s16 wx=>s16= .int .i64 hi/\Ext w9 wx)
      case first=>
       go_region_held3 (fun w'=>w'.cell? ⟨p4,0,none⟩=some (.bool gr)/\w'.cell? ⟨p4,1,none⟩=some (.slice Br kr dr)/\w'.cell? ⟨p,0,none⟩=some (.bool gl)/\w'.cell? ⟨p,1,none⟩=some (.slice Bl kl dl)/\w'.cell? ⟨bm,om,none⟩=some (.slice (some ⟨b0,o0,none⟩) (k+1) c0)/\w'.cell? ⟨b0,o0,none⟩=some (.bool gE)/\w'.cell? ⟨b0,o0+1,none⟩=some (.slice BE kE dE))
        (exact HKP.out _ inferInstance)
        (first
         |(go_at_call 182;refine (rSubB HZR.out HZL.out HSS.out.1 HB.out.l).mono ?_;rintro e w5 ⟨g5,B5,k5,d5,rfl,hz5,hs5⟩)
         |(go_at_call 184;refine (rQuoB hz5 HZE.out HSS.out.2.1 HB.out.b0 HE2.out.2.2).mono ?_;rintro e w6 ⟨g6',B6,k6,d6,rfl,hz6,hs6⟩;rw [HE2.out.1] at hz6)
         |(go_at_call 116;refine (rInt64_fit hz6 HHI.out.1 HHI.out.2).mono ?_;rintro e w7 ⟨rfl,hs7⟩))
       all_goals (go_wp2_with fail;go_meet;exact ⟨rfl,inferInstance⟩)
      case rest=>
       obtain ⟨wz,rfl⟩:∃wz:World,wz=wc:=⟨_,rfl⟩
       obtain ⟨rfl,hxz⟩:=hcut
       have hxwz:Ext w wz:=hxw9.trans hxz
       have hxlz:Ext wl wz:=hxl9.trans hxz
       go_wp2_with fail
       go_region_held3 (fun w'=>w'.cell? ⟨p4,0,none⟩=some (.bool gr)/\w'.cell? ⟨p4,1,none⟩=some (.slice Br kr dr)/\w'.cell? ⟨p,0,none⟩=some (.bool gl)/\w'.cell? ⟨p,1,none⟩=some (.slice Bl kl dl)/\w'.cell? ⟨bm,om,none⟩=some (.slice (some ⟨b0,o0,none⟩) (k+1) c0)/\w'.cell? ⟨b0,o0,none⟩=some (.bool gE)/\w'.cell? ⟨b0,o0+1,none⟩=some (.slice BE kE dE))
        (exact HKP.out _ (hxz.trans inferInstance))
        (first
         |(go_at_call 180;refine (rAddB HZR.out HZL.out HSS.out.1 HB.out.l).mono ?_;rintro e w5 ⟨g5,B5,k5,d5,rfl,hz5,hs5⟩)
         |(go_at_call 184;refine (rQuoB hz5 HZE.out HSS.out.2.2 HB.out.b0 HE2.out.2.2).mono ?_;rintro e w6 ⟨g6',B6,k6,d6,rfl,hz6,hs6⟩)
         |(go_at_call 149;refine (rNegB hz6 ⟨(HSS.out.2.2.bd).div _⟩).mono ?_;rintro e w7 ⟨g7,B7,k7,d7,rfl,hz7,hs7⟩;rw [HE2.out.2.1] at hz7)
         |(go_at_call 116;refine (rInt64_fit hz7 HLO.out.1 HLO.out.2).mono ?_;rintro e w8 ⟨rfl,hs8⟩))
       all_goals
        go_wp2_with fail
        go_ret2
        exact ⟨rfl,Step.of _ _⟩
theorem Only.oth {w w':World} {T:TypeId} {g:Nat} {cs:Array Value} {fr:Nat×Nat} (h:Only g w w') (hg:w.heap[g]? =some (.cells cs T fr)):Oth T w w':=fun b cs' e fr' hn hb=>by
 rcases Nat.lt_trichotomy b g with hlt |rfl |hgt
 ·exact (h.below.block b hlt).trans hb
 ·rw [hg] at hb
  injection hb with hb
  injection hb with _ he
  exact absurd he.symm hn
 ·exact (h.rest b hgt (lt_of_heap hb)).trans hb
def RetCnt (w:World) (m:List (List Int)) (bound:Int) (budget:Int) (k:Nat) (t cs:List Int) (g:Nat) (e:Ending) (w':World):Prop:=∃(ok:Bool) (cs':List Int),e= .returned (.bool ok)/\Only g w w'/\Row w' g 3 .i64 cs'/\cs'.length=cs.length/\(ok=true->cs'=addY cs (ysT m bound k t)/\cs.sum+totY (ysT m bound k t)<=budget)/\(ok=false->budget<cs.sum+totY (ysT m bound k t))
theorem getD_le_sum {cs:List Int} (h:∀x∈cs,0<=x) (i:Nat):0<=cs.getD i 0/\cs.getD i 0<=cs.sum:=by
 induction cs generalizing i with
 |nil=>simp
 |cons a cs ih=>
  have ha:=h a (by simp)
  have hc:=fun i=>ih (fun x hx=>h x (by simp [hx])) i
  have h0:0<=cs.sum:=by have :=hc 0;omega
  cases i with
  |zero=>simp only [List.getD_cons_zero,List.sum_cons];omega
  |succ i=>have :=hc i;simp only [List.getD_cons_succ,List.sum_cons];omega
theorem addY_nonneg {cs:List Int} {ys:List (Int×Int)} (h:∀x∈cs,0<=x) (hy:∀p∈ys,0<=p.2):∀x∈addY cs ys,0<=x:=fun x hx=>by
 unfold addY at hx
 rw [List.mem_map] at hx
 obtain ⟨i,-,rfl⟩:=hx
 have :=(getD_le_sum h i).1
 have :=atY_nonneg hy i
 omega
theorem take_sum_bd {cs:List Int} (h:∀x∈cs,0<=x) (k:Nat):0<=(cs.take k).sum/\(cs.take k).sum<=cs.sum:=by
 have h1:=getD_le_sum (cs:=cs.take k) (fun x hx=>h x (List.mem_of_mem_take hx)) 0
 have h2:=getD_le_sum (cs:=cs.drop k) (fun x hx=>h x (List.mem_of_mem_drop hx)) 0
 have e:cs.sum=(cs.take k).sum+(cs.drop k).sum:=by rw [<-List.sum_append,List.take_append_drop]
 omega
set_option maxRecDepth 20000 in
theorem rargs_ok {w0 w:World} {A:Option Addr} {c n:Nat} {m:List (List Int)} {bound most budget:Int} (hM:MatA w0 A m) (hL:LLLed m) (h1:m.length=n) (hb0:0<=bound) (hb1:bound<=most) (hu0:0<=budget) (hu1:budget<=1000000) [hx:Ext w0 w]:
  Calls Tryz.prog 100 #[.slice A n c,.int .i64 bound,.int .i64 most,.int .i64 budget] w (RetVal w (.int .i64 0)):=by
 have HR:=Lib.hid (fun W (e:Ext w0 W)=>rIsReduced_ok (w:=W) (c:=c) hM hL h1 hL.fits hL.bd)
 have c1:decide (bound<0)=false:=by simp;omega
 have c2:decide (most<bound)=false:=by simp;omega
 have c3:decide (budget<0)=false:=by simp;omega
 have c4:decide (1000000<budget)=false:=by simp;omega
 clear hM hL h1
 go_enter Tryz.func100,Tryz.ntmps100
 go_wp2_with (go_at_call 120;refine (HR.out _ inferInstance).mono ?_;rintro e w2 ⟨rfl,hs2⟩)
 go_ret
 exact ⟨rfl,Step.of _ _⟩
def RetSt (w:World) (m:List (List Int)) (n:Nat) (bound budget:Int) (e:Ending) (w':World):Prop:=
 (totS m bound<=budget/\∃g,e= .returned (.tuple #[.slice (some ⟨g,0,none⟩) n n,.int .i64 0])/\Row w' g 3 .i64 (stS m bound)/\w.heap.size<=g/\Step w w')∨(budget<totS m bound/\e= .returned (.tuple #[.slice none 0 0,.int .i64 9])/\Step w w')
theorem stM_zero {m:List (List Int)} (hn:AllLen m m.length):stM m 0=m:=by
 unfold stM
 rw [Nat.sub_zero]
 have :tab (fun i j=>E (ent m) 0 (0+i) (0+j)) m.length m.length=tab (fun i j=>ent m i j) m.length m.length:=tab_congr fun i j _ _=>by rw [Nat.zero_add,Nat.zero_add];rfl
 rw [this]
 exact (tab_self rfl hn).symm
theorem nrm_bd {m:List (List Int)} (hL:LLLed m) {x:List Int} (hxl:x.length=m.length) (hxb:∀a∈x,-9223372036854775808<=a/\a<=9223372036854775807):Bd 100000 (nrm m x):=by
 have h8:=hL.len8
 rw [<-ipR_nrm hL.all x hxl,ipR_apply]
 have h1:=applyR_bd (m:=m) (n:=m.length) (k:=199) (x:=x) (by omega) hL.bd (fun i=>(bdL_64 hxb i).mono (by omega))
 exact (dot_bd (k:=64+(2*199+m.length)) (n:=m.length) (fun i _=>(bdL_64 hxb i).mul (h1 i)) m.length (Nat.le_refl _)).mono (by omega)
set_option maxRecDepth 20000 in
theorem rPartial_ok {w0 w1 w:World} {m:List (List Int)} {x:List Int} {SB DB XA:Option Addr} {sc dc xc n:Nat} (hF':FrV w0 m SB DB) (hL:LLLed m) (h1:m.length=n) (hX:Ints w1 XA 2 .i64 x) (hxl:x.length=n) (hxb:∀a∈x,-9223372036854775808<=a/\a<=9223372036854775807) [hx:Ext w0 w] [hy:Ext w1 w]:
  Calls Tryz.prog 117 #[.agg #[.int .i64 n,.slice SB n sc,.slice DB (n+1) dc],.slice XA n xc] w (RetRat w (fun p q=>p=nrm m x/\q=1)):=by
 have h8:=hL.len8
 have h3:=hL.len1
 have hF:=hF'.ext hx
 have hms:((List.range m.length).map (stM m))[0]? =some (stM m 0):=by rw [List.getElem?_map,List.getElem?_range (by omega)];rfl
 obtain ⟨bs,os,BM,cM,rfl,g1,hM,-,-,g2⟩:=hF.1.at_ hms
 rw [stM_zero hL.all] at g1 hM
 obtain ⟨bd,od,gD,BD,kD,dD,rfl,d1,d2,hzD,d3⟩:=hF.2.atD (i:=0) (by simp)
 simp only [List.getD_cons_zero] at hzD
 rw [h1] at g1
 simp only [Nat.add_zero,Nat.zero_mul] at g1 d1 d2
 have hall:AllLen m n:=by rw [<-h1];exact hL.all
 have HCO:Hid (∀W,Ext w1 W->Calls Tryz.prog 123 #[.slice XA n xc] W (RetIntsL W x)):=Lib.hid (fun W e=>by
  have :=rColumn_ok (w:=W) (c:=xc) hX (by omega) hxb
  rwa [hxl] at this)
 have hnv:(sumR n fun i=>x.getD i 0*(applyR m n x).getD i 0)=nrm m x:=by
  rw [<-ipR_nrm hL.all x (by omega),ipR_apply,h1]
 have HVA:Hid (∀(W1 W:World) (A1:Option Addr) (c1:Nat),IntsV W1 A1 x->Ext W1 W->Ext w W->Calls Tryz.prog 188 #[.slice BM n cM,.slice A1 n c1] W (RetInt W (nrm m x))):=Lib.hid (fun W1 W A1 c1 i1 e1 e2=>by
  rw [<-hnv]
  exact rvalue_ok (k:=199) (hM.ext e2) i1 h1 (by omega) (by omega) hall hxl (by omega) hL.bd (fun i=>(bdL_64 hxb i).mono (by omega)))
 have hnb:=nrm_bd hL (x:=x) (by omega) hxb
 have HQU:Hid (∀(W1 W:World) g B k d,IntV W1 g B k d (nrm m x)->Ext W1 W->Ext w W->Calls Tryz.prog 151 #[.agg #[.bool g,.slice B k d],.agg #[.bool gD,.slice BD kD dD]] W (RetRat W (RatOf (nrm m x) 1))):=Lib.hid (fun W1 W g B k d hz e1 e2=>rQuotient_ok hz (hzD.ext e2) (kk:=100000) (by omega) hnb (Bd.one (by omega)) (by omega))
 have HXL:=Lib.hid hxl
 have hn0:((n:Int)==0)=false:=by simp;omega
 have hn8:n<=8:=by omega
 have hn1:0<n:=by omega
 unfold RetRat at HQU |-
 generalize nrm m x=nv at*
 clear hF hF' hms hM hL h1 hX hxl hxb hall hnv hnb hzD h8 h3
 have oa:Old bs w:=⟨g2⟩
 have ob:Old bd w:=⟨d3⟩
 go_enter Tryz.func117,Tryz.ntmps117
 go_wp2_with fail
 have HKP:Hid (∀W,Ext (w.alloc (.cells #[.int .i64 n,.slice (some ⟨bs,os,none⟩) n sc,.slice (some ⟨bd,od,none⟩) (n+1) dc] 106)) W->W.cell? ⟨w.heap.size,1,none⟩=some (.slice (some ⟨bs,os,none⟩) n sc)/\W.cell? ⟨w.heap.size,2,none⟩=some (.slice (some ⟨bd,od,none⟩) (n+1) dc)/\W.cell? ⟨bs,os,none⟩=some (.slice BM n cM)/\W.cell? ⟨bd,od,none⟩=some (.bool gD)/\W.cell? ⟨bd,od+1,none⟩=some (.slice BD kD dD)):=Lib.hid (fun W e=>by
  have hb:=heap_of_ext e (heap_alloc_new w _)
  obtain ⟨⟨-,f1,f2⟩,-,-⟩:=blk3 hb
  have e2:Ext w W:=Ext.trans inferInstance e
  exact ⟨f1,f2,(cellE w).trans g1,(cellE w).trans d1,(cellE w).trans d2⟩)
 go_region_held3 (fun w'=>w'.cell? ⟨w.heap.size,1,none⟩=some (.slice (some ⟨bs,os,none⟩) n sc)/\w'.cell? ⟨w.heap.size,2,none⟩=some (.slice (some ⟨bd,od,none⟩) (n+1) dc)/\w'.cell? ⟨bs,os,none⟩=some (.slice BM n cM)/\w'.cell? ⟨bd,od,none⟩=some (.bool gD)/\w'.cell? ⟨bd,od+1,none⟩=some (.slice BD kD dD))
  (exact HKP.out _ inferInstance)
  (first
   |(go_at_call 123;refine (HCO.out _ inferInstance).mono ?_;rintro e w3 ⟨A3,c3,rfl,hI3,-,-,hs3⟩;rw [HXL.out])
   |(go_at_call 188;refine (HVA.out _ _ _ _ hI3 inferInstance inferInstance).mono ?_;rintro e w4 ⟨g4,B4,k4,d4,rfl,hz4,hs4⟩)
   |(go_at_call 151;refine (HQU.out _ _ _ _ _ _ hz4 inferInstance inferInstance).mono ?_;rintro e w5 ⟨g6,B6,k6,d6,g7,B7,k7,d7,p,q,rfl,hz6,hz7,hPQ,hs5⟩;have hbk:=(inferInstance:BlkAt (w.heap.size+1) #[.bool false,.slice none 0 0,.bool false,.slice none 0 0] 171 w5).eq;have HBK:=Lib.hid hbk;obtain ⟨⟨a0,a1,a2,a3⟩,⟨f0,f1,f2,f3⟩,a4⟩:=blk4 hbk;have tq:Typed (w.heap.size+1) 171 w5:=⟨_,_,hbk⟩;clear hbk))
 have hq1:q=1:=by
  have :=hPQ.pos
  have :=hPQ.le2
  omega
 have hp1:p=nv:=by
  have :=hPQ.eq
  rw [hq1] at this
  omega
 clear hPQ
 go_wp2_with fail
 exact bodyPost_ret (v:= .agg #[.bool g6,.slice B6 k6 d6,.bool g7,.slice B7 k7 d7]) (by simp [results,Tryz.results117,go_sem,a0,a1,a2,a3]) rfl ⟨_,_,_,_,_,_,_,_,p,q,rfl,hz6.keeps,hz7.keeps,⟨hp1,hq1⟩,Step.of _ _⟩
/-! ## Lists of items -/
def ItV (w:World) (vs:List Value) (its:List (Int×List Int)):Prop:=vs.length=its.length*2/\∀(i:Nat) (p:Int×List Int),its[i]? =some p->∃B c,vs[i*2]? =some (.int .i64 p.1)/\vs[i*2+1]? =some (.slice B p.2.length c)/\Ints w B 2 .i64 p.2/\p.2.length<=c/\c<=9223372036854775807
theorem ItV.map {w w':World} {vs:List Value} {its:List (Int×List Int)} (h:ItV w vs its) (hk:∀{B:Option Addr} {l:List Int},Ints w B 2 .i64 l->Ints w' B 2 .i64 l):ItV w' vs its:=⟨h.1,fun i p hp=>by
 obtain ⟨B,c,a1,a2,a3,a4⟩:=h.2 i p hp
 exact ⟨B,c,a1,a2,hk a3,a4⟩⟩
theorem ItV.ext {w w':World} {vs:List Value} {its:List (Int×List Int)} (h:ItV w vs its) (hx:Ext w w'):ItV w' vs its:=h.map fun h=>h.ext hx
theorem ItV.nil (w:World):ItV w [] []:=⟨rfl,fun i p hp=>by simp at hp⟩
theorem ItV.snoc {w:World} {vs:List Value} {its:List (Int×List Int)} (h:ItV w vs its) {B:Option Addr} {c:Nat} {a:Int} {x:List Int} (hI:Ints w B 2 .i64 x) (h1:x.length<=c) (h2:c<=9223372036854775807):ItV w (vs++[.int .i64 a,.slice B x.length c]) (its++[(a,x)]):=by
 refine ⟨by simp [h.1];omega,fun i p hp=>?_⟩
 rcases Nat.lt_or_ge i its.length with hlt |hge
 ·rw [List.getElem?_append_left hlt] at hp
  obtain ⟨B',c',a1,a2,a3⟩:=h.2 i p hp
  have hl:=h.1
  exact ⟨B',c',by rw [List.getElem?_append_left (by omega)];exact a1,by rw [List.getElem?_append_left (by omega)];exact a2,a3⟩
 ·have hi:i=its.length:=by
   have :=(List.getElem?_eq_some_iff.1 hp).1
   simp at this;omega
  subst hi
  rw [List.getElem?_append_right (Nat.le_refl _),Nat.sub_self] at hp
  simp only [List.getElem?_cons_zero] at hp
  injection hp with hp
  subst hp
  have hl:=h.1
  exact ⟨B,c,by rw [List.getElem?_append_right (by omega),hl,Nat.sub_self];rfl,by rw [List.getElem?_append_right (by omega),hl,Nat.add_sub_cancel_left];rfl,hI,h1,h2⟩
end Go.Proofs.YtijfjailmilkfaaGreat
namespace Go.Proofs.YtijfjailmilkfaaGreat
open Go.RowKit
open La
theorem infoIt:(Tryz.prog.info? 53).map (fun i=>(i.zero,i.size,i.bytes))=some (some (.agg #[.int .i64 0,.slice none 0 0]),2,32):=by kernel_rfl
theorem Grow.stepI {w w' w2:World} {base:Nat} {e:TypeId} (h:Grow base e w w') (h':Grow base e w' w2):Grow base e w w2:=⟨h.below.trans h'.below,fun k hk hne=>by
 have e1:=h.typed k hk hne
 exact (h'.typed k (Nat.lt_of_lt_of_le hk h.below.size) (fun cs fr hh=>hne cs fr (by rw [<-e1];exact hh))).trans e1⟩
theorem run_fieldQ0 (g:Bool) (B:Option Addr) (k d:Nat) (g':Bool) (B':Option Addr) (k' d':Nat) (w:World):(Instr.field 171 (.agg #[.bool g,.slice B k d,.bool g',.slice B' k' d']) 0).run Tryz.prog w= .ok (.agg #[.bool g,.slice B k d]) w:=by
 obtain ⟨i,h1,h2,h3,h4⟩:=info_parts infoInt
 simp [Instr.field,run_underlying Tryz.underlying171,asAgg,part,sizeOf,typeInfo,go_sem,h1,h3]
attribute [local go_sem] run_fieldQ0
def lvN (m:List (List Int)) (b:Int):Nat->List Int->List (List Int)
 |0,t=>[t]
 |k+1,t=>lvs m b k t
def lvK (m:List (List Int)) (b:Int) (k:Nat) (t:List Int) (q:Nat):List (List Int):=(List.range q).flatMap fun (j:Nat)=>lvN m b k ((tLo m b k t+(j:Int))::t)
theorem lvs_K (m:List (List Int)) (b:Int) (k:Nat) (t:List Int):lvs m b k t=lvK m b k t (tCnt m b k t):=by
 cases k with
 |zero=>
  unfold lvK lvN
  rw [lvs]
  induction List.range (tCnt m b 0 t) with
  |nil=>rfl
  |cons a l ih=>rw [List.map_cons,List.flatMap_cons,ih];rfl
 |succ k=>rfl
theorem lvK_succ (m:List (List Int)) (b:Int) (k:Nat) (t:List Int) (q:Nat):lvK m b k t (q+1)=lvK m b k t q++lvN m b k ((tLo m b k t+(q:Int))::t):=by
 unfold lvK
 rw [List.range_succ,List.flatMap_append,List.flatMap_singleton]
theorem lvK_le (m:List (List Int)) (b:Int) (k:Nat) (t:List Int) {p q:Nat} (h:p<=q):(lvK m b k t p).length<=(lvK m b k t q).length:=by
 induction q with
 |zero=>obtain rfl:p=0:=by omega
        exact Nat.le_refl _
 |succ q ih=>
  rcases Nat.lt_or_ge p (q+1) with h1 |h1
  ·have :=ih (by omega)
   rw [lvK_succ,List.length_append];omega
  ·obtain rfl:p=q+1:=by omega
   exact Nat.le_refl _
def itm (m:List (List Int)) (L:List (List Int)):List (Int×List Int):=L.map fun x=>(nrm m x,x)
theorem itm_append (m:List (List Int)) (L L':List (List Int)):itm m (L++L')=itm m L++itm m L':=List.map_append
def RetLv (w:World) (base len:Nat) (its:List (Int×List Int)) (m L:List (List Int)) (e:Ending) (w':World):Prop:=∃A c vs,e= .returned (.slice A (len+L.length) c)/\Own w' base 53 2 A (len+L.length) c vs/\ItV w' vs (its++itm m L)/\Grow base 53 w w'
end Go.Proofs.YtijfjailmilkfaaGreat
namespace Go.Proofs.YtijfjailmilkfaaGreat
open Go.RowKit
open La
theorem Arr.take {w:World} {A:Option Addr} {e:TypeId} {vs:List Value} (h:Arr w A e vs) (k:Nat):Arr w A e (vs.take k):=fun h0=>by
 obtain ⟨b,o,cs,fr,hA,hb,hc⟩:=h (by rw [List.length_take] at h0;omega)
 refine ⟨b,o,cs,fr,hA,hb,fun j u hu=>?_⟩
 rw [List.getElem?_take] at hu
 split at hu
 ·exact hc _ _ hu
 ·cases hu
theorem ItV.one {w:World} {vs:List Value} {its:List (Int×List Int)} (h:ItV w vs its):∀u∈vs,u.oneCell'=true:=fun u hu=>by
 obtain ⟨j,hj⟩:=List.getElem?_of_mem hu
 have hjl:=(List.getElem?_eq_some_iff.1 hj).1
 have hl:=h.1
 have hi:j / 2<its.length:=by omega
 obtain ⟨B,c,a1,a2,-⟩:=h.2 (j / 2) its[j / 2] (List.getElem?_eq_getElem hi)
 rcases Nat.mod_two_eq_zero_or_one j with e |e
 ·rw [show j / 2*2=j by omega,hj] at a1
  injection a1 with a1
  rw [a1];rfl
 ·rw [show j / 2*2+1=j by omega,hj] at a2
  injection a2 with a2
  rw [a2];rfl
theorem ItV.take {w:World} {vs:List Value} {its:List (Int×List Int)} (h:ItV w vs its) (k:Nat):ItV w (vs.take (k*2)) (its.take k):=by
 refine ⟨by rw [List.length_take,List.length_take,h.1];omega,fun i p hp=>?_⟩
 rw [List.getElem?_take] at hp
 split at hp
 ·rename_i hi
  obtain ⟨B,c,a1,a2,a3⟩:=h.2 i p hp
  exact ⟨B,c,by rw [List.getElem?_take,if_pos (by omega)];exact a1,by rw [List.getElem?_take,if_pos (by omega)];exact a2,a3⟩
 ·cases hp
theorem ItV.drop {w:World} {vs:List Value} {its:List (Int×List Int)} (h:ItV w vs its) (k:Nat):ItV w (vs.drop (k*2)) (its.drop k):=by
 refine ⟨by rw [List.length_drop,List.length_drop,h.1];omega,fun i p hp=>?_⟩
 rw [List.getElem?_drop] at hp
 obtain ⟨B,c,a1,a2,a3⟩:=h.2 _ p hp
 exact ⟨B,c,by rw [List.getElem?_drop,show k*2+i*2=(k+i)*2 by omega];exact a1,by rw [List.getElem?_drop,show k*2+(i*2+1)=(k+i)*2+1 by omega];exact a2,a3⟩
theorem ItV.append {w:World} {vs vs':List Value} {its its':List (Int×List Int)} (h:ItV w vs its) (h':ItV w vs' its'):ItV w (vs++vs') (its++its'):=by
 refine ⟨by simp [h.1,h'.1];omega,fun i p hp=>?_⟩
 have hl:=h.1
 rcases Nat.lt_or_ge i its.length with hlt |hge
 ·rw [List.getElem?_append_left hlt] at hp
  obtain ⟨B,c,a1,a2,a3⟩:=h.2 i p hp
  exact ⟨B,c,by rw [List.getElem?_append_left (by omega)];exact a1,by rw [List.getElem?_append_left (by omega)];exact a2,a3⟩
 ·rw [List.getElem?_append_right hge] at hp
  obtain ⟨B,c,a1,a2,a3⟩:=h'.2 _ p hp
  exact ⟨B,c,by rw [List.getElem?_append_right (by omega),show i*2-vs.length=(i-its.length)*2 by omega];exact a1,by rw [List.getElem?_append_right (by omega),show i*2+1-vs.length=(i-its.length)*2+1 by omega];exact a2,a3⟩
theorem putP_end {l:List (Int×List Int)} {x:Int×List Int} (h:putI l x=l.length):putP l x=l.take (putI l x)++x::l.drop (putI l x):=by
 unfold putP
 rw [h]
 simp
theorem putP_mid {l:List (Int×List Int)} {x y:Int×List Int} (h:l[putI l x]? =some y) (hl:lessP x y=true):putP l x=l.take (putI l x)++x::l.drop (putI l x):=by
 unfold putP
 rw [h]
 simp [hl]
theorem putP_keep {l:List (Int×List Int)} {x y:Int×List Int} (h:l[putI l x]? =some y) (hl:lessP x y=false):putP l x=l:=by
 unfold putP
 rw [h]
 simp [hl]
def RetPut (w:World) (base:Nat) (its:List (Int×List Int)) (e:Ending) (w':World):Prop:=∃A c vs,e= .returned (.slice A its.length c)/\Own w' base 53 2 A its.length c vs/\ItV w' vs its/\Ext w w'
set_option maxRecDepth 20000 in
theorem rPut_ok {w:World} {base len lc xc:Nat} {LA XA:Option Addr} {vs:List Value} {its:List (Int×List Int)} {a:Int} {x:List Int} (hO:Own w base 53 2 LA len lc vs) (hV:ItV w vs its) (hbs:base<=w.heap.size) (hl:its.length<=1000000) (hX:Ints w XA 2 .i64 x) (hxc:x.length<=xc) (hxc2:xc<=9223372036854775807) (hx8:x.length<=1000) (hr8:∀p∈its,p.2.length<=1000):
  Calls Tryz.prog 68 #[.slice LA len lc,.agg #[.int .i64 a,.slice XA x.length xc]] w (RetPut w base (putP its (a,x))):=by
 have hlen:its.length=len:=by have :=hO.len;have :=hV.1;omega
 have hcap:=hO.cap
 have harr:=hO.arr
 have hE:∀k p,its[k]? =some p->∃b o B c,LA=some ⟨b,o,none⟩/\w.cell? ⟨b,o+k*2,none⟩=some (.int .i64 p.1)/\w.cell? ⟨b,o+k*2+1,none⟩=some (.slice B p.2.length c)/\Ints w B 2 .i64 p.2/\b<w.heap.size:=fun k p hp=>by
  obtain ⟨B,c,a1,a2,a3,-⟩:=hV.2 k p hp
  obtain ⟨b,o,hA,h1,h2⟩:=harr.at_ a1
  obtain ⟨b',o',hA',h1',-⟩:=harr.at_ a2
  rw [hA] at hA'
  injection hA' with hA'
  injection hA' with z1 z2
  subst z1 z2
  exact ⟨b,o,B,c,hA,h1,by rw [Nat.add_assoc];exact h1',a3,h2⟩
 have HE:=Lib.hid hE
 have HV:=Lib.hid hV
 have HO:=Lib.hid hO
 have HAR:=Lib.hid harr
 have HX:=Lib.hid hX
 have HR8:=Lib.hid hr8
 have HLN:=Lib.hid hlen
 obtain ⟨xl,hxl⟩:∃xl,xl=x.length:=⟨_,rfl⟩
 have HXL:=Lib.hid hxl
 rw [<-hxl] at hxc hx8 |-
 rw [hlen] at hl
 clear hE hV hO harr hX hr8 hlen hxl
 unfold RetPut
 have hxb:Ext w (w.alloc (.cells #[.int .i64 a,.slice XA xl xc] 53)):=inferInstance
 go_enter Tryz.func68,Tryz.ntmps68
 go_wp2_with fail
 go_loopw [5] (fun i wr=>∃k:Nat,k<=len/\i= .int .i64 k/\Hid (∀j y,j<k->its[j]? =some y->lessP y (a,x)=true)/\Ext (w.alloc (.cells #[.int .i64 a,.slice XA xl xc] 53)) wr) (fun i _=>len-(intOf i).toNat)
 case atStart=>exact ⟨0,by omega,rfl,Lib.hid (fun j y hj=>absurd hj (by omega)),inferInstance⟩
 case round=>
  obtain ⟨k,hk,rfl,HP,hxr⟩:=hrel
  have hxwr:Ext w wr:=hxb.trans hxr
  have HKX:Hid (∀W,Ext wr W->W.cell? ⟨w.heap.size,0,none⟩=some (.int .i64 a)/\W.cell? ⟨w.heap.size,1,none⟩=some (.slice XA xl xc)):=Lib.hid (fun W e=>by
   obtain ⟨p1,p2,-⟩:=box_cells2 (heap_of_ext (hxr.trans e) (heap_alloc_new w _))
   exact ⟨p1,p2⟩)
  by_cases hlt:k<len
  ·obtain ⟨y,hy⟩:∃y,its[k]? =some y:=⟨_,List.getElem?_eq_getElem (by rw [HLN.out];exact hlt)⟩
   obtain ⟨b,o,B,c,rfl,z1,z2,hI,z3⟩:=HE.out k y hy
   have hy8:=HR8.out y (List.mem_of_getElem? hy)
   have oB:Old b w:=⟨z3⟩
   have HZ:=Lib.hid (And.intro z1 z2)
   obtain ⟨ya,yx⟩:=y
   simp only at z1 z2 hI hy8
   have hkd:decide ((k:Int)<(len:Int))=true:=by simp;omega
   have HLE:Hid (∀W,Ext w W->Calls Tryz.prog 119 #[.agg #[.int .i64 ya,.slice B yx.length c],.agg #[.int .i64 a,.slice XA xl xc]] W (RetVal W (.bool (lessP (ya,yx) (a,x))))):=Lib.hid (fun W e=>by
    rw [HXL.out]
    exact rLess_ok hI HX.out (by omega) (by rw [<-HXL.out];omega))
   have HHD:Hid (∀W,Ext wr W->W.cell? ⟨w.heap.size,0,none⟩=some (.int .i64 a)/\W.cell? ⟨w.heap.size,1,none⟩=some (.slice XA xl xc)/\W.cell? ⟨b,o+k*2,none⟩=some (.int .i64 ya)/\W.cell? ⟨b,o+k*2+1,none⟩=some (.slice B yx.length c)):=Lib.hid (fun W e=>⟨(HKX.out W e).1,(HKX.out W e).2,(cellE w (hx:=hxwr.trans e)).trans HZ.out.1,(cellE w (hx:=hxwr.trans e)).trans HZ.out.2⟩)
   cases hless:lessP (ya,yx) (a,x) with
   |true=>
    have HPN:Hid (∀j y,j<k+1->its[j]? =some y->lessP y (a,x)=true):=Lib.hid (fun j y hj hjy=>by
     rcases Nat.lt_or_ge j k with h |h
     ·exact HP.out j y h hjy
     ·obtain rfl:j=k:=by omega
      rw [hy] at hjy
      injection hjy with hjy
      rw [<-hjy];exact hless)
    rw [hless] at HLE
    clear z1 z2 hI hy
    go_wp2_with fail
    go_region_held3 (fun w'=>w'.cell? ⟨w.heap.size,0,none⟩=some (.int .i64 a)/\w'.cell? ⟨w.heap.size,1,none⟩=some (.slice XA xl xc)/\w'.cell? ⟨b,o+k*2,none⟩=some (.int .i64 ya)/\w'.cell? ⟨b,o+k*2+1,none⟩=some (.slice B yx.length c))
     (exact HHD.out _ inferInstance)
     ((go_at_call 119;refine (HLE.out _ inferInstance).mono ?_;rintro e w5 ⟨rfl,hs5⟩))
    all_goals
     go_wp2_with fail
     exact ⟨⟨k+1,by omega,by go_num,HPN,hxr.trans inferInstance⟩,by simp [intOf]<;>omega⟩
   |false=>
    have hpi:=putI_iff its (a,x) k HP.out (by rw [HLN.out];omega) (fun y' hy'=>by rw [hy] at hy';injection hy' with hy';rw [<-hy'];exact hless)
    have HPI:=Lib.hid hpi
    have HY:=Lib.hid hy
    have HII:=Lib.hid hI
    rw [hless] at HLE
    clear z1 z2 hI hpi hy
    go_wp2_with fail
    go_region_held3 (fun w'=>w'.cell? ⟨w.heap.size,0,none⟩=some (.int .i64 a)/\w'.cell? ⟨w.heap.size,1,none⟩=some (.slice XA xl xc)/\w'.cell? ⟨b,o+k*2,none⟩=some (.int .i64 ya)/\w'.cell? ⟨b,o+k*2+1,none⟩=some (.slice B yx.length c))
     (exact HHD.out _ inferInstance)
     ((go_at_call 119;refine (HLE.out _ inferInstance).mono ?_;rintro e w5 ⟨rfl,hs5⟩))
    have hx5:Ext wr w5:=inferInstance
    have hxw5:Ext w w5:=hxwr.trans hx5
    have HLE2:Hid (∀W,Ext w W->Calls Tryz.prog 119 #[.agg #[.int .i64 a,.slice XA xl xc],.agg #[.int .i64 ya,.slice B yx.length c]] W (RetVal W (.bool (lessP (a,x) (ya,yx))))):=Lib.hid (fun W e=>by
     rw [HXL.out]
     exact rLess_ok HX.out HII.out (by rw [<-HXL.out];omega) (by omega))
    cases hl2:lessP (a,x) (ya,yx) with
    |false=>
     have HPU:Hid (putP its (a,x)=its):=Lib.hid (putP_keep (y:=(ya,yx)) (by rw [HPI.out];exact HY.out) hl2)
     rw [hl2] at HLE2
     go_wp2_with fail
     go_region_held3 (fun w'=>w'.cell? ⟨w.heap.size,0,none⟩=some (.int .i64 a)/\w'.cell? ⟨w.heap.size,1,none⟩=some (.slice XA xl xc)/\w'.cell? ⟨b,o+k*2,none⟩=some (.int .i64 ya)/\w'.cell? ⟨b,o+k*2+1,none⟩=some (.slice B yx.length c))
      (exact HHD.out _ (hx5.trans inferInstance))
      ((go_at_call 119;refine (HLE2.out _ inferInstance).mono ?_;rintro e w6 ⟨rfl,hs6⟩))
     have hx6:Ext w w6:=hxw5.trans inferInstance
     go_wp2_with fail
     go_ret
     rw [HPU.out,HLN.out]
     exact ⟨_,lc,vs,rfl,HO.out.ext (hx6.trans inferInstance),HV.out.ext (hx6.trans inferInstance),hx6.trans inferInstance⟩
    |true=>
     have HPU:Hid (putP its (a,x)=its.take k++((a,x)::its.drop k)):=Lib.hid (by
      have h:=putP_mid (l:=its) (x:=(a,x)) (y:=(ya,yx)) (by rw [HPI.out];exact HY.out) hl2
      rwa [HPI.out] at h)
     rw [hl2] at HLE2
     go_wp2_with fail
     go_region_held3 (fun w'=>w'.cell? ⟨w.heap.size,0,none⟩=some (.int .i64 a)/\w'.cell? ⟨w.heap.size,1,none⟩=some (.slice XA xl xc)/\w'.cell? ⟨b,o+k*2,none⟩=some (.int .i64 ya)/\w'.cell? ⟨b,o+k*2+1,none⟩=some (.slice B yx.length c))
      (exact HHD.out _ (hx5.trans inferInstance))
      ((go_at_call 119;refine (HLE2.out _ inferInstance).mono ?_;rintro e w6 ⟨rfl,hs6⟩))
     have hx6:Ext w w6:=hxw5.trans inferInstance
     have hxr6:Ext wr w6:=hx5.trans inferInstance
     have hvt:(vs.take (k*2)).length=k*2:=by rw [List.length_take];have :=HO.out.len;omega
     have hvd:(vs.drop (k*2)).length=(len-k)*2:=by rw [List.length_drop];have :=HO.out.len;omega
     have hck:lc≠k:=by omega
     have hsz6:w.heap.size<=w6.heap.size:=hx6.size
     have HVT:=Lib.hid (And.intro hvt hvd)
     have HON:=Lib.hid HV.out.one
     clear hvt hvd
     go_wp2_with (first
      |(have hh:=HO8;clear hh;at_builtin;go_loud (refine wpList_app _ rfl _ _ 48 rfl w6.heap.size 53 (.agg #[.int .i64 0,.slice none 0 0]) 2 32 Tryz.underlying48 infoIt rfl (by omega) (by omega) A8 (k+1) c8 _ rfl HO8.out _ (len-k) (lc-k) (vs.drop (k*2)) rfl ((HAR.out.drop (k*2)).ext (hx6.trans hx8b)) HVT.out.2 (fun u hu=>HON.out u (List.mem_of_mem_drop hu)) (by omega) (by have :=hx8b.size;omega) ?_);intro A9 c9 w9 hown hg;have HO9:=Lib.hid hown;have hx9:Ext w6 w9:=hg.ext hx8b (Nat.le_refl _);clear hown hg)
      |(have hh:=HO7;clear hh;at_builtin;go_loud (refine wpList_app _ rfl _ _ 48 rfl w6.heap.size 53 (.agg #[.int .i64 0,.slice none 0 0]) 2 32 Tryz.underlying48 infoIt rfl (by omega) (by omega) A7 k c7 _ rfl (HO7.out.ext inferInstance) (some ⟨w7.heap.size,0,none⟩) 1 1 [.int .i64 a,.slice XA xl xc] rfl (Arr.new w7 53 #[.int .i64 a,.slice XA xl xc]) (by simp) (by simp [Value.oneCell']) (by omega) (by have :=hx7b.size;simp;omega) ?_);intro A8 c8 w8 hown hg;have HO8:=Lib.hid hown;have hx8b:Ext w6 w8:=hg.ext (hx7b.trans inferInstance) (Nat.le_refl _);clear hown hg)
      |(at_builtin;go_loud (refine wpList_app _ rfl _ _ 48 rfl w6.heap.size 53 (.agg #[.int .i64 0,.slice none 0 0]) 2 32 Tryz.underlying48 infoIt rfl (by omega) (by omega) none 0 0 [] rfl (Own.nil _ _ _ _) _ k lc (vs.take (k*2)) rfl ((HAR.out.ext (hx6.trans inferInstance)).take (k*2)) HVT.out.1 (fun u hu=>HON.out u (List.mem_of_mem_take hu)) (by omega) (by simp) ?_);intro A7 c7 w7 hown hg;rw [Nat.zero_add,List.nil_append] at hown;rw [Nat.zero_add];have HO7:=Lib.hid hown;have hx7b:Ext w6 w7:=hg.ext inferInstance (by simp);obtain ⟨x0,x1⟩:=HKX.out w7 (hxr6.trans hx7b);clear hown hg))
     have hpl:(putP its (a,x)).length=k+1+(len-k):=by
      rw [HPU.out,List.length_append,List.length_cons,List.length_take,List.length_drop,HLN.out];omega
     have hx69:Ext w w9:=hx6.trans hx9
     have hone:ItV w [.int .i64 a,.slice XA xl xc] [(a,x)]:=by
      have h:=ItV.snoc (a:=a) (ItV.nil w) HX.out (by rw [<-HXL.out];exact hxc) hxc2
      rw [<-HXL.out] at h
      exact h
     have hit:ItV w (vs.take (k*2)++[.int .i64 a,.slice XA xl xc]++vs.drop (k*2)) (putP its (a,x)):=by
      have h:=((HV.out.take k).append hone).append (HV.out.drop k)
      rw [HPU.out]
      simpa [List.append_assoc] using h
     rw [<-hpl] at HO9 |-
     go_ret
     exact ⟨A9,c9,_,rfl,(HO9.out.lower (Nat.le_trans hbs hx6.size)).ext inferInstance,hit.ext (hx69.trans inferInstance),hx69.trans inferInstance⟩
  ·obtain rfl:k=len:=by omega
   have hpi:=putI_iff its (a,x) k HP.out (by rw [HLN.out];omega) (fun y' hy'=>by rw [List.getElem?_eq_none (by rw [HLN.out];omega)] at hy';cases hy')
   have HPU:Hid (putP its (a,x)=its.take k++((a,x)::its.drop k)):=Lib.hid (by
    have h:=putP_end (l:=its) (x:=(a,x)) (by rw [hpi,HLN.out])
    rwa [hpi] at h)
   have hkd:decide ((k:Int)<(k:Int))=false:=by simp
   clear hpi hlt hk
   go_wp2_with fail
   go_quiet (fail)
   go_wp2_with fail
   go_quiet (fail)
   rename_i nq0 Ka ha Kb hb
   have hxr6:Ext wr ((wr.drewN nq0).drewN nq):=inferInstance
   have hx6:Ext w ((wr.drewN nq0).drewN nq):=hxwr.trans hxr6
   generalize (wr.drewN nq0).drewN nq=w6 at*
   have HPU2:Hid (putP its (a,x)=its++[(a,x)]):=Lib.hid (by
    rw [HPU.out,List.take_of_length_le (by rw [HLN.out];exact Nat.le_refl _),List.drop_eq_nil_of_le (by rw [HLN.out];exact Nat.le_refl _)])
   have HVL:Hid (vs.length=k*2):=Lib.hid HO.out.len
   have HON:=Lib.hid HV.out.one
   rcases HO.out.2 with ⟨hv,hn⟩ |⟨g,cap,cur,hv,-⟩
   ·injection hv with h1 h2 h3
    subst h1 h2 h3
    go_wp2_with (first
     |(have hh:=HO8;clear hh;at_builtin;go_loud (refine wpList_app _ rfl _ _ 48 rfl w6.heap.size 53 (.agg #[.int .i64 0,.slice none 0 0]) 2 32 Tryz.underlying48 infoIt rfl (by omega) (by omega) A8 (0+1) c8 _ rfl HO8.out _ 0 _ [] rfl Arr.nil rfl (by simp) (by omega) (by have :=hx8b.size;omega) ?_);intro A9 c9 w9 hown hg;have HO9:=Lib.hid hown;have hx9:Ext w6 w9:=hg.ext hx8b (Nat.le_refl _);clear hown hg)
     |(have hh:=HO7;clear hh;at_builtin;go_loud (refine wpList_app _ rfl _ _ 48 rfl w6.heap.size 53 (.agg #[.int .i64 0,.slice none 0 0]) 2 32 Tryz.underlying48 infoIt rfl (by omega) (by omega) A7 0 c7 _ rfl (HO7.out.ext inferInstance) (some ⟨w7.heap.size,0,none⟩) 1 1 [.int .i64 a,.slice XA xl xc] rfl (Arr.new w7 53 #[.int .i64 a,.slice XA xl xc]) (by simp) (by simp [Value.oneCell']) (by omega) (by have :=hx7b.size;simp;omega) ?_);intro A8 c8 w8 hown hg;have HO8:=Lib.hid hown;have hx8b:Ext w6 w8:=hg.ext (hx7b.trans inferInstance) (Nat.le_refl _);clear hown hg)
     |(at_builtin;go_loud (refine wpList_app _ rfl _ _ 48 rfl w6.heap.size 53 (.agg #[.int .i64 0,.slice none 0 0]) 2 32 Tryz.underlying48 infoIt rfl (by omega) (by omega) none 0 0 [] rfl (Own.nil _ _ _ _) _ 0 _ vs rfl (HO.out.arr.ext hx6) HVL.out (fun u hu=>HON.out u hu) (by omega) (by simp) ?_);intro A7 c7 w7 hown hg;rw [Nat.zero_add,List.nil_append] at hown;rw [Nat.zero_add];have HO7:=Lib.hid hown;have hx7b:Ext w6 w7:=hg.ext inferInstance (by simp);obtain ⟨x0,x1⟩:=HKX.out w7 (hxr6.trans hx7b);clear hown hg))
    have hx69:Ext w w9:=hx6.trans hx9
    have hone:ItV w [.int .i64 a,.slice XA xl xc] [(a,x)]:=by
     have h:=ItV.snoc (a:=a) (ItV.nil w) HX.out (by rw [<-HXL.out];exact hxc) hxc2
     rw [<-HXL.out] at h
     exact h
    have hit:ItV w (vs++[.int .i64 a,.slice XA xl xc]++[]) (putP its (a,x)):=by
     rw [List.append_nil,HPU2.out]
     exact HV.out.append hone
    have hpl:(putP its (a,x)).length=0+1:=by rw [HPU2.out,List.length_append,HLN.out];rfl
    have h9:=HO9.out
    rw [Nat.add_zero] at h9
    rw [hpl]
    go_ret
    exact ⟨A9,c9,rfl,_,(h9.lower (Nat.le_trans hbs hx6.size)).ext inferInstance,hit.ext (hx69.trans inferInstance),hx69.trans inferInstance⟩
   ·injection hv with h1 h2 h3
    subst h1 h3
    by_cases hcc:lc=k
    ·subst hcc
     go_wp2_with (first
      |(have hh:=HO8;clear hh;at_builtin;go_loud (refine wpList_app _ rfl _ _ 48 rfl w6.heap.size 53 (.agg #[.int .i64 0,.slice none 0 0]) 2 32 Tryz.underlying48 infoIt rfl (by omega) (by omega) A8 (lc+1) c8 _ rfl HO8.out _ 0 _ [] rfl Arr.nil rfl (by simp) (by omega) (by have :=hx8b.size;omega) ?_);intro A9 c9 w9 hown hg;have HO9:=Lib.hid hown;have hx9:Ext w6 w9:=hg.ext hx8b (Nat.le_refl _);clear hown hg)
      |(have hh:=HO7;clear hh;at_builtin;go_loud (refine wpList_app _ rfl _ _ 48 rfl w6.heap.size 53 (.agg #[.int .i64 0,.slice none 0 0]) 2 32 Tryz.underlying48 infoIt rfl (by omega) (by omega) A7 lc c7 _ rfl (HO7.out.ext inferInstance) (some ⟨w7.heap.size,0,none⟩) 1 1 [.int .i64 a,.slice XA xl xc] rfl (Arr.new w7 53 #[.int .i64 a,.slice XA xl xc]) (by simp) (by simp [Value.oneCell']) (by omega) (by have :=hx7b.size;simp;omega) ?_);intro A8 c8 w8 hown hg;have HO8:=Lib.hid hown;have hx8b:Ext w6 w8:=hg.ext (hx7b.trans inferInstance) (Nat.le_refl _);clear hown hg)
      |(at_builtin;go_loud (refine wpList_app _ rfl _ _ 48 rfl w6.heap.size 53 (.agg #[.int .i64 0,.slice none 0 0]) 2 32 Tryz.underlying48 infoIt rfl (by omega) (by omega) none 0 0 [] rfl (Own.nil _ _ _ _) _ lc _ vs rfl (HO.out.arr.ext hx6) HVL.out (fun u hu=>HON.out u hu) (by omega) (by simp) ?_);intro A7 c7 w7 hown hg;rw [Nat.zero_add,List.nil_append] at hown;rw [Nat.zero_add];have HO7:=Lib.hid hown;have hx7b:Ext w6 w7:=hg.ext inferInstance (by simp);obtain ⟨x0,x1⟩:=HKX.out w7 (hxr6.trans hx7b);clear hown hg))
     have hx69:Ext w w9:=hx6.trans hx9
     have hone:ItV w [.int .i64 a,.slice XA xl xc] [(a,x)]:=by
      have h:=ItV.snoc (a:=a) (ItV.nil w) HX.out (by rw [<-HXL.out];exact hxc) hxc2
      rw [<-HXL.out] at h
      exact h
     have hit:ItV w (vs++[.int .i64 a,.slice XA xl xc]++[]) (putP its (a,x)):=by
      rw [List.append_nil,HPU2.out]
      exact HV.out.append hone
     have hpl:(putP its (a,x)).length=lc+1:=by rw [HPU2.out,List.length_append,HLN.out];rfl
     have h9:=HO9.out
     rw [Nat.add_zero] at h9
     rw [hpl]
     go_ret
     exact ⟨A9,c9,rfl,_,(h9.lower (Nat.le_trans hbs hx6.size)).ext inferInstance,hit.ext (hx69.trans inferInstance),hx69.trans inferInstance⟩
    ·go_wp2_with (first
      |(have hh:=HO8;clear hh;at_builtin;go_loud (refine wpList_app _ rfl _ _ 48 rfl w6.heap.size 53 (.agg #[.int .i64 0,.slice none 0 0]) 2 32 Tryz.underlying48 infoIt rfl (by omega) (by omega) A8 (k+1) c8 _ rfl HO8.out _ 0 _ [] rfl Arr.nil rfl (by simp) (by omega) (by have :=hx8b.size;omega) ?_);intro A9 c9 w9 hown hg;have HO9:=Lib.hid hown;have hx9:Ext w6 w9:=hg.ext hx8b (Nat.le_refl _);clear hown hg)
      |(have hh:=HO7;clear hh;at_builtin;go_loud (refine wpList_app _ rfl _ _ 48 rfl w6.heap.size 53 (.agg #[.int .i64 0,.slice none 0 0]) 2 32 Tryz.underlying48 infoIt rfl (by omega) (by omega) A7 k c7 _ rfl (HO7.out.ext inferInstance) (some ⟨w7.heap.size,0,none⟩) 1 1 [.int .i64 a,.slice XA xl xc] rfl (Arr.new w7 53 #[.int .i64 a,.slice XA xl xc]) (by simp) (by simp [Value.oneCell']) (by omega) (by have :=hx7b.size;simp;omega) ?_);intro A8 c8 w8 hown hg;have HO8:=Lib.hid hown;have hx8b:Ext w6 w8:=hg.ext (hx7b.trans inferInstance) (Nat.le_refl _);clear hown hg)
      |(at_builtin;go_loud (refine wpList_app _ rfl _ _ 48 rfl w6.heap.size 53 (.agg #[.int .i64 0,.slice none 0 0]) 2 32 Tryz.underlying48 infoIt rfl (by omega) (by omega) none 0 0 [] rfl (Own.nil _ _ _ _) _ k _ vs rfl (HO.out.arr.ext hx6) HVL.out (fun u hu=>HON.out u hu) (by omega) (by simp) ?_);intro A7 c7 w7 hown hg;rw [Nat.zero_add,List.nil_append] at hown;rw [Nat.zero_add];have HO7:=Lib.hid hown;have hx7b:Ext w6 w7:=hg.ext inferInstance (by simp);obtain ⟨x0,x1⟩:=HKX.out w7 (hxr6.trans hx7b);clear hown hg))
     have hx69:Ext w w9:=hx6.trans hx9
     have hone:ItV w [.int .i64 a,.slice XA xl xc] [(a,x)]:=by
      have h:=ItV.snoc (a:=a) (ItV.nil w) HX.out (by rw [<-HXL.out];exact hxc) hxc2
      rw [<-HXL.out] at h
      exact h
     have hit:ItV w (vs++[.int .i64 a,.slice XA xl xc]++[]) (putP its (a,x)):=by
      rw [List.append_nil,HPU2.out]
      exact HV.out.append hone
     have hpl:(putP its (a,x)).length=k+1:=by rw [HPU2.out,List.length_append,HLN.out];rfl
     have h9:=HO9.out
     rw [Nat.add_zero] at h9
     rw [hpl]
     go_ret
     exact ⟨A9,c9,rfl,_,(h9.lower (Nat.le_trans hbs hx6.size)).ext inferInstance,hit.ext (hx69.trans inferInstance),hx69.trans inferInstance⟩
def putS (m:List (List Int)) (l:List (Int×List Int)) (x:List Int):List (Int×List Int):=if 0<firstNZ x then putP l (nrm m x,x) else l
theorem itemsL_snoc (m:List (List Int)) (xs:List (List Int)) (x:List Int):itemsL m (xs++[x])=putS m (itemsL m xs) x:=by
 unfold itemsL putS
 rw [List.foldl_append]
 rfl
theorem putP_len (l:List (Int×List Int)) (x:Int×List Int):(putP l x).length<=l.length+1:=by
 unfold putP
 split
 ·split
  ·simp only [List.length_append,List.length_take,List.length_cons,List.length_drop];omega
  ·omega
 ·simp
theorem foldP_len (m:List (List Int)) (xs:List (List Int)):∀l:List (Int×List Int),(xs.foldl (fun l x=>if 0<firstNZ x then putP l (nrm m x,x) else l) l).length<=l.length+xs.length:=by
 induction xs with
 |nil=>intro l;exact Nat.le_refl _
 |cons x xs ih=>
  intro l
  rw [List.foldl_cons,List.length_cons]
  refine Nat.le_trans (ih _) ?_
  split
  ·have :=putP_len l (nrm m x,x);omega
  ·omega
theorem itemsL_len (m:List (List Int)) (xs:List (List Int)):(itemsL m xs).length<=xs.length:=by
 have :=foldP_len m xs []
 unfold itemsL
 simpa using this
theorem itemsL_mem {m:List (List Int)} {xs:List (List Int)}:∀p∈itemsL m xs,p.2∈xs:=fun p hp=>by
 rcases ((items_ok m xs [] List.Pairwise.nil).2 p).1 hp with h |⟨x,hx,-,rfl⟩
 ·simp at h
 ·exact hx
theorem canon_eq {x:List Int} (h:firstNZ x≠0):canonL x=x↔0<firstNZ x:=by
 constructor
 ·intro e
  have :=canon_first x h
  rwa [e] at this
 ·exact canonL_pos
def RetIts (w:World) (its:List (Int×List Int)) (e:Ending) (w':World):Prop:=∃A c vs,e= .returned (.slice A its.length c)/\Own w' w.heap.size 53 2 A its.length c vs/\ItV w' vs its/\Step w w'
end Go.Proofs.YtijfjailmilkfaaGreat
