/- R10i R10e R10f Iv12 R12a Em12 -/
import Derived.Test.YtjehjkipcaohpaaGreatVE06
import Derived.Test.YtjehjkipcaohpaaGreatProg
import Derived.Test.YtjehjkipcaohpaaGreatShelf
set_option maxHeartbeats 8000000
set_option linter.unusedVariables false
set_option linter.unusedSimpArgs false
set_option linter.constructorNameAsVariable false
namespace Go.Proofs.YtjehjkipcaohpaaGreat
open Go.RowKit
open La
set_option maxRecDepth 20000 in
theorem rInterval_ok {w0 w1 w:World} {m:List (List Int)} {t:List Int} {SB DB TA:Option Addr} {sc dc tc n s q:Nat} {bound:Int} (hF':FrV w0 m SB DB) (hL:LLLed m) (h1:m.length=n) (hq:n=s+q+1) (hT:Ints w1 TA 2 .i64 t) (htl:t.length=q) (htb:∀a∈t,-9223372036854775808<=a/\a<=9223372036854775807) (hb0:-9223372036854775808<=bound) (hb1:bound<=9223372036854775807) (h0:0<=left (ent m) bound (s+1) t)
  (hl0:-9223372036854775808<=tLo m bound s t) (hl1:tLo m bound s t<=9223372036854775807) (hh0:-9223372036854775808<=tHi m bound s t) (hh1:tHi m bound s t<=9223372036854775807) [hx:Ext w0 w] [hy:Ext w1 w]:
  Calls Tryz.prog 108 #[.agg #[.int .i64 n,.slice SB n sc,.slice DB (n+1) dc],.int .i64 bound,.slice TA q tc] w (RetVal w (.tuple #[.int .i64 (tLo m bound s t),.int .i64 (tHi m bound s t)])):=by
 have hr:=red_ok hL.red
 have hn8:=hL.len8
 have hs:s<m.length:=by omega
 obtain ⟨e1,e2,e3,e4⟩:=ival_eq hr hs bound t (by omega) h0
 have hF:=hF'.ext hx
 have hB:=ivB hL (s:=s) (q:=q) (t:=t) (bound:=bound) (by omega) htl htb hb0 hb1
 -- the memory of the stage
 have hms:((List.range m.length).map (stM m))[s]? =some (stM m s):=by simp [hs]
 obtain ⟨bs,os,BM,cM,rfl,g1,hM,-,-,g2⟩:=hF.1.at_ hms
 rw [stM_len,show m.length-s=q+1 by omega] at g1
 obtain ⟨bm,om,B0,c0,rfl,g3,hI0,g4,g5,g6⟩:=hM.at_ (stM_row (m:=m) (s:=s) (i:=0) (by omega))
 have hrl:∀i,((List.range (m.length-s)).map fun j=>fB m s i j).length=q+1:=fun i=>by simp;omega
 rw [hrl] at g3 g4
 obtain ⟨b0,o0,gE,BE,kE,dE,rfl,p1,p2,hzE,p3⟩:=hI0.atD (i:=0) (by rw [hrl];omega)
 have hE0:((List.range (m.length-s)).map fun j=>fB m s 0 j).getD 0 0=fB m s 0 0:=by
  have :0<m.length-s:=by omega
  simp [List.getD,this]
 rw [hE0] at hzE
 obtain ⟨bd,od,gD,BD,kD,dD,rfl,d1,d2,hzD,d3⟩:=hF.2.atD (i:=s) (by rw [List.length_cons,leadF_len];omega)
 have hDs:(1::leadF m).getD s 0=lastE (ent m) s:=by
  cases s with
  |zero=>rfl
  |succ s=>rw [List.getD_cons_succ,lead_get hL.pos (by omega)];rfl
 rw [hDs] at hzD
 have HROW:Hid (∀i,i<=q->∃bi oi ci,w.cell? ⟨bm,om+i,none⟩=some (.slice (some ⟨bi,oi,none⟩) (q+1) ci)/\IntsV w (some ⟨bi,oi+2,none⟩) (rowD m s i)/\q+1<=ci/\ci<=9223372036854775807):=Lib.hid (fun i hi=>by
  obtain ⟨b',o',Bi,ci,e,a1,a2,a3,a4,-⟩:=hM.at_ (stM_row (m:=m) (s:=s) (i:=i) (by omega))
  injection e with e
  injection e with x1 x2
  subst x1 x2
  rw [hrl] at a1 a3
  obtain ⟨bi,oi,-,-,-,-,rfl,-⟩:=a2.atD (i:=0) (by rw [hrl];omega)
  exact ⟨bi,oi,ci,a1,a2.drop 1,a3,a4⟩)
 obtain ⟨b0',o0',c0',f1,hR0,f3,f4⟩:=HROW.out 0 (by omega)
 rw [Nat.add_zero] at f1 g3
 rw [g3] at f1
 injection f1 with f1
 injection f1 with x1 x2 x3
 injection x1 with x1
 injection x1 with x1 x4
 subst x1 x4 x3
 simp only [Nat.zero_mul,Nat.add_zero] at p1 p2
 have HCO:Hid (∀W,Ext w1 W->Calls Tryz.prog 162 #[.slice TA q tc] W (RetIntsL W t)):=Lib.hid (fun W e=>by
  have :=rColumn_ok (w:=W) (c:=tc) hT (by omega) htb
  rwa [htl] at this)
 have HDT:Hid (∀(W1 W2 W:World) (A1 A2:Option Addr) (c1 c2 i:Nat),IntsV W1 A1 (rowD m s i)->IntsV W2 A2 t->Ext W1 W->Ext W2 W->Calls Tryz.prog 163 #[.slice A1 q c1,.slice A2 q c2] W (RetInt W (fD m s q t i))):=Lib.hid (fun W1 W2 W A1 A2 c1 c2 i i1 i2 x1 x2=>
  rDot_ok i1 i2 (rowD_len (by omega)) htl (by omega) (k:=51200) (by omega) (rowD_bd (fB_bd hL hs)) (fun i=>(bdL_64 htb i).mono (by omega)))
 have hnq:(n:Int)-(q:Int)=((s+1:Nat):Int):=by omega
 have hns:((s+1:Nat):Int)-1=(s:Int):=by omega
 have hw1:IntKind.i64.wrap ((n:Int)-(q:Int))=((s+1:Nat):Int):=by rw [hnq];exact IntWalk.i64_in _ (by omega)
 have hw2:IntKind.i64.wrap (((s+1:Nat):Int)-1)=(s:Int):=by rw [hns];exact IntWalk.i64_in _ (by omega)
 have hsn:s<n:=by omega
 have HTL:=Lib.hid htl
 rw [<-hB.fL] at e1 e2 e3
 have HB:=Lib.hid hB
 have HE:=Lib.hid (And.intro e1 (And.intro e2 (And.intro e3 e4)))
 generalize tLo m bound s t=lo at*
 generalize tHi m bound s t=hi at*
 have HLO:=Lib.hid (And.intro hl0 hl1)
 have HHI:=Lib.hid (And.intro hh0 hh1)
 clear e1 e2 e3 hl0 hl1 hh0 hh1 hB hrl hM hI0 hF hF' hms hE0 hDs h0 hr hL hT htb htl hs x2 hnq hns
 have hn9:n<=8:=by omega
 have hqn:q<n:=by omega
 have HQ:Hid (m.length=s+q+1):=Lib.hid (by omega)
 clear hq hn8 h1
 have oa:Old bs w:=⟨g2⟩
 have ob:Old bm w:=⟨g6⟩
 have oc:Old b0 w:=⟨p3⟩
 have ox4:Old bd w:=⟨d3⟩
 have HZE:=Lib.hid hzE
 have HZD:=Lib.hid hzD
 have HR0:=Lib.hid hR0
 clear hzE hzD hR0
 go_enter Tryz.func108,Tryz.ntmps108
 go_upto_region 4 with (go_at_call 162;refine (HCO.out _ inferInstance).mono ?_;rintro e w3 ⟨A3,c3,rfl,hI3,hc31,hc32,hs3⟩;have HI3:=Lib.hid hI3;clear hI3;rw [HTL.out] at hc31 |-)
 have HR1:Hid (q=0->∀W,IntsV W (some ⟨b0,o0,none⟩) (rowD m s 0)):=Lib.hid (fun e W=>by
  have :rowD m s 0=[]:=List.eq_nil_of_length_eq_zero (by rw [rowD_len (q:=q) (HQ.out)];exact e)
  rw [this];exact IntsV.nil _ _)
 have hxf:Ext (w.alloc (.cells #[.int .i64 n,.slice (some ⟨bs,os,none⟩) n sc,.slice (some ⟨bd,od,none⟩) (n+1) dc] 89)) w3:=inferInstance
 go_cut [11] (fun s11 wx=>∃p,s11= .pointer (some ⟨p,0,none⟩)/\Hid (Box wx p (fD m s q t 0))/\Ext w3 wx)
 case first=>
  go_wp2_with fail
  ·refine (HDT.out w3 w3 w3 _ _ _ _ 0 (HR1.out (by omega) _) HI3.out inferInstance inferInstance).mono ?_
   rintro e w4 ⟨g4,B4,k4,d4,rfl,hz4,hs4⟩
   go_wp2_with fail
   go_meet
   exact ⟨_,rfl,Lib.hid ⟨g4,B4,k4,d4,BlkAt.eq,hz4.keeps⟩,inferInstance⟩
  ·refine (HDT.out w w3 w3 _ _ _ _ 0 HR0.out HI3.out inferInstance inferInstance).mono ?_
   rintro e w4 ⟨g4,B4,k4,d4,rfl,hz4,hs4⟩
   go_wp2_with fail
   go_meet
   exact ⟨_,rfl,Lib.hid ⟨g4,B4,k4,d4,BlkAt.eq,hz4.keeps⟩,inferInstance⟩
 case rest=>
  obtain ⟨wl,rfl⟩:∃wl:World,wl=wc:=⟨_,rfl⟩
  obtain ⟨p,rfl,HBX,hxc⟩:=hcut
  obtain ⟨gl,Bl,kl,dl,hbkl,l1,l2,l3,l4,l5,hzl⟩:=HBX.out.cells
  have oP:Old p wl:=⟨l5⟩
  have HZL:=Lib.hid hzl
  have HCL:=Lib.hid (And.intro l1 l2)
  have hx3:Ext w3 wl:=hxc
  have hxw:Ext w wl:=(inferInstance:Ext w w3).trans hxc
  clear hbkl hzl l1 l2 l3 l4
  go_wp2_with fail
  go_loopw [42] (fun i wr=>∃k:Nat,k<=q/\i= .int .i64 k/\Hid (Box wr wl.heap.size (sumR k fun i=>t.getD i 0*fD m s q t (i+1)))/\Ext wl wr) (fun i _=>q-(intOf i).toNat)
  case atStart=>
   refine ⟨0,by omega,rfl,Lib.hid ⟨false,none,0,0,?_,IntV.zero _ _ _ (by omega)⟩,inferInstance⟩
   exact BlkAt.eq
  case round=>
   obtain ⟨k,hk,rfl,HC,hxr⟩:=hrel
   have hxwr:Ext w wr:=hxw.trans hxr
   have hx3r:Ext w3 wr:=hx3.trans hxr
   by_cases hlt:k<q
   ·obtain ⟨gc,Bc,kc,dc',hbkc,r1,r2,r3,r4,r5,hzc⟩:=HC.out.cells
    obtain ⟨by_,oy,gy,By,ky,dy,rfl,y1,y2,hzy,y3⟩:=(HI3.out.ext hx3r).atD (i:=k) (by rw [HTL.out];exact hlt)
    obtain ⟨bi,oi,ci,i1,hIi,i3,i4⟩:=HROW.out (k+1) (by omega)
    have hi1:wr.cell? ⟨bm,om+(k+1),none⟩=some (.slice (some ⟨bi,oi,none⟩) (q+1) ci):=(cellE w).trans i1
    have HS:=Lib.hid (And.intro r1 (And.intro r2 (And.intro y1 (And.intro y2 hi1))))
    have oC:Old wl.heap.size wr:=⟨r5⟩
    have oY:Old by_ wr:=⟨y3⟩
    have oM:Old bm wr:=⟨Nat.lt_of_lt_of_le g6 hxwr.size⟩
    have HZC:=Lib.hid hzc
    have HZY:=Lib.hid hzy
    have HII:=Lib.hid hIi
    have HBK:=Lib.hid hbkc
    have HNX:Hid ((sumR k fun i=>t.getD i 0*fD m s q t (i+1))+t.getD k 0*fD m s q t (k+1)=sumR (k+1) fun i=>t.getD i 0*fD m s q t (i+1)):=Lib.hid (by rw [sumR_succ])
    have HB1:=Lib.hid (HB.out.c k (by omega))
    have HF3:=Lib.hid (And.intro r3 r4)
    generalize (sumR k fun i=>t.getD i 0*fD m s q t (i+1))=ck at*
    have hwk:IntKind.i64.wrap ((k:Int)+1)=((k+1:Nat):Int):=IntWalk.i64_in _ (by omega)
    have hci:1<ci:=by omega
    have hci2:ci≠1:=by omega
    have hk0:(0:Int)<=(k:Int)+1:=by omega
    have hq1:(1:Int)<=(q:Int)+1:=by omega
    have hq2:(q:Int)+1<=(ci:Int):=by omega
    have hk1:(k:Int)+1<(q:Int)+1:=by omega
    clear hbkc r1 r2 r3 r4 hzc y1 y2 hzy i1 hIi hi1
    go_wp2_with fail
    have a1:wr.cell? ⟨wl.heap.size,0,none⟩=some (.bool gc):=HS.out.1
    have a2:wr.cell? ⟨wl.heap.size,1,none⟩=some (.slice Bc kc dc'):=HS.out.2.1
    have a3:wr.cell? ⟨by_,oy+k*2,none⟩=some (.bool gy):=HS.out.2.2.1
    have a4:wr.cell? ⟨by_,oy+k*2+1,none⟩=some (.slice By ky dy):=HS.out.2.2.2.1
    have a5:wr.cell? ⟨bm,om+(k+1),none⟩=some (.slice (some ⟨bi,oi,none⟩) (q+1) ci):=HS.out.2.2.2.2
    go_region_law (first
     |(go_simp;go_at_call 163;refine (HDT.out w w3 _ _ _ _ _ (k+1) HII.out HI3.out inferInstance inferInstance).mono ?_;rintro e w5 ⟨g5,B5,k5,d5,rfl,hz5,hs5⟩;have b1:w5.cell? ⟨wl.heap.size,0,none⟩=some (.bool gc):=(cellE wr).trans HS.out.1;have b2:w5.cell? ⟨wl.heap.size,1,none⟩=some (.slice Bc kc dc'):=(cellE wr).trans HS.out.2.1;have b3:w5.cell? ⟨by_,oy+k*2,none⟩=some (.bool gy):=(cellE wr).trans HS.out.2.2.1;have b4:w5.cell? ⟨by_,oy+k*2+1,none⟩=some (.slice By ky dy):=(cellE wr).trans HS.out.2.2.2.1;have b5:w5.cell? ⟨bm,om+(k+1),none⟩=some (.slice (some ⟨bi,oi,none⟩) (q+1) ci):=(cellE wr).trans HS.out.2.2.2.2)
     |(go_simp;go_at_call 171;refine (rMulB HZY.out hz5 (HB.out.y k) (HB.out.d (k+1))).mono ?_;rintro e w6 ⟨g6',B6,k6,d6,rfl,hz6,hs6⟩;have c1:w6.cell? ⟨wl.heap.size,0,none⟩=some (.bool gc):=(cellE wr).trans HS.out.1;have c2:w6.cell? ⟨wl.heap.size,1,none⟩=some (.slice Bc kc dc'):=(cellE wr).trans HS.out.2.1;have c3:w6.cell? ⟨by_,oy+k*2,none⟩=some (.bool gy):=(cellE wr).trans HS.out.2.2.1;have c4:w6.cell? ⟨by_,oy+k*2+1,none⟩=some (.slice By ky dy):=(cellE wr).trans HS.out.2.2.2.1;have c5:w6.cell? ⟨bm,om+(k+1),none⟩=some (.slice (some ⟨bi,oi,none⟩) (q+1) ci):=(cellE wr).trans HS.out.2.2.2.2)
     |(go_simp;go_at_call 170;refine (rAddB HZC.out hz6 HB1.out (HB.out.p k)).mono ?_;rintro e w7 ⟨g7,B7,k7,d7,rfl,hz7,hs7⟩;rw [HNX.out] at hz7;have f1:w7.frozen? ⟨wl.heap.size,0,none⟩=false:=(frozenE wr).trans HF3.out.1;have f2:w7.frozen? ⟨wl.heap.size,1,none⟩=false:=(frozenE wr).trans HF3.out.2;have d1:w7.cell? ⟨wl.heap.size,0,none⟩=some (.bool gc):=(cellE wr).trans HS.out.1;have d2:w7.cell? ⟨wl.heap.size,1,none⟩=some (.slice Bc kc dc'):=(cellE wr).trans HS.out.2.1;have d3:w7.cell? ⟨by_,oy+k*2,none⟩=some (.bool gy):=(cellE wr).trans HS.out.2.2.1;have d4:w7.cell? ⟨by_,oy+k*2+1,none⟩=some (.slice By ky dy):=(cellE wr).trans HS.out.2.2.2.1;have d5:w7.cell? ⟨bm,om+(k+1),none⟩=some (.slice (some ⟨bi,oi,none⟩) (q+1) ci):=(cellE wr).trans HS.out.2.2.2.2))
    all_goals
     go_wp2
     refine ⟨⟨k+1,by omega,by go_num,Lib.hid ?_,?_⟩,by simp [intOf]<;>omega⟩
     ·exact Box.put (heap_of_ext (inferInstance:Ext wr w7) HBK.out) hz7
     ·exact ((hxr.trans (inferInstance:Ext wr w7)).setCell (p:=⟨wl.heap.size,0,none⟩) (Nat.le_refl _) _).setCell (p:=⟨wl.heap.size,1,none⟩) (Nat.le_refl _) _
   ·obtain rfl:k=q:=by omega
    have HC1:=HC.out
    rw [HB.out.fC] at HC1
    obtain ⟨gc,Bc,kc,dc',hbkc,r1,r2,r3,r4,r5,hzc⟩:=HC1.cells
    have HCS:=Lib.hid (show Bb (fC m s t) by have :=HB.out.c k (Nat.le_refl _);rwa [HB.out.fC] at this)
    have oC:Old wl.heap.size wr:=⟨r5⟩
    have HZC:=Lib.hid hzc
    have HBK:=Lib.hid hbkc
    have HF3:=Lib.hid (And.intro r3 r4)
    have hfb:wr.heap[w.heap.size]? =some (.cells #[.int .i64 n,.slice (some ⟨bs,os,none⟩) n sc,.slice (some ⟨bd,od,none⟩) (n+1) dc] 89 (0,0)):=heap_of_ext (hxf.trans hx3r) (heap_alloc_new w _)
    obtain ⟨⟨-,-,f2⟩,-,f5⟩:=blk3 hfb
    have oF:Old w.heap.size wr:=⟨f5⟩
    have oD:Old bd wr:=⟨Nat.lt_of_lt_of_le d3 hxwr.size⟩
    have oB:Old bm wr:=⟨Nat.lt_of_lt_of_le g6 hxwr.size⟩
    have oE:Old b0 wr:=⟨Nat.lt_of_lt_of_le p3 hxwr.size⟩
    have oP2:Old p wr:=⟨Nat.lt_of_lt_of_le l5 hxr.size⟩
    have e1:wr.cell? ⟨bd,od+s*2,none⟩=some (.bool gD):=(cellE w).trans d1
    have e2:wr.cell? ⟨bd,od+s*2+1,none⟩=some (.slice BD kD dD):=(cellE w).trans d2
    have HS:=Lib.hid (And.intro r1 (And.intro r2 (And.intro e1 (And.intro e2 f2))))
    have HSM:=Lib.hid (fun W=>rSmall_any bound hb0 hb1 W)
    have hsn2:(s:Int)<(n:Int)+1:=by omega
    clear hbkc r3 r4 hzc HC HC1 hfb
    go_wp2_with fail
    go_cut [] (fun wx=>Hid (Box wx wl.heap.size (fC m s t-bound*lastE (ent m) s))/\Ext wl wx)
    case first=>
     go_region_law (first
      |(go_simp;go_at_call 107;refine (HSM.out _).mono ?_;rintro e w5 ⟨g5,B5,k5,d5,rfl,hz5,hs5⟩;have b1:w5.cell? ⟨wl.heap.size,0,none⟩=some (.bool gc):=(cellE wr).trans HS.out.1;have b2:w5.cell? ⟨wl.heap.size,1,none⟩=some (.slice Bc kc dc'):=(cellE wr).trans HS.out.2.1;have b3:w5.cell? ⟨bd,od+s*2,none⟩=some (.bool gD):=(cellE wr).trans HS.out.2.2.1;have b4:w5.cell? ⟨bd,od+s*2+1,none⟩=some (.slice BD kD dD):=(cellE wr).trans HS.out.2.2.2.1;have b5:w5.cell? ⟨w.heap.size,2,none⟩=some (.slice (some ⟨bd,od,none⟩) (n+1) dc):=(cellE wr).trans HS.out.2.2.2.2)
      |(go_simp;go_at_call 171;refine (rMulB hz5 HZD.out HB.out.bo HB.out.ls).mono ?_;rintro e w6 ⟨g6',B6,k6,d6,rfl,hz6,hs6⟩;have c1:w6.cell? ⟨wl.heap.size,0,none⟩=some (.bool gc):=(cellE wr).trans HS.out.1;have c2:w6.cell? ⟨wl.heap.size,1,none⟩=some (.slice Bc kc dc'):=(cellE wr).trans HS.out.2.1;have c3:w6.cell? ⟨bd,od+s*2,none⟩=some (.bool gD):=(cellE wr).trans HS.out.2.2.1;have c4:w6.cell? ⟨bd,od+s*2+1,none⟩=some (.slice BD kD dD):=(cellE wr).trans HS.out.2.2.2.1;have c5:w6.cell? ⟨w.heap.size,2,none⟩=some (.slice (some ⟨bd,od,none⟩) (n+1) dc):=(cellE wr).trans HS.out.2.2.2.2)
      |(go_simp;go_at_call 172;refine (rSubB HZC.out hz6 HCS.out HB.out.bl).mono ?_;rintro e w7 ⟨g7,B7,k7,d7,rfl,hz7,hs7⟩;have f1:w7.frozen? ⟨wl.heap.size,0,none⟩=false:=(frozenE wr).trans HF3.out.1;have f2:w7.frozen? ⟨wl.heap.size,1,none⟩=false:=(frozenE wr).trans HF3.out.2;have d1:w7.cell? ⟨wl.heap.size,0,none⟩=some (.bool gc):=(cellE wr).trans HS.out.1;have d2:w7.cell? ⟨wl.heap.size,1,none⟩=some (.slice Bc kc dc'):=(cellE wr).trans HS.out.2.1;have d3:w7.cell? ⟨bd,od+s*2,none⟩=some (.bool gD):=(cellE wr).trans HS.out.2.2.1;have d4:w7.cell? ⟨bd,od+s*2+1,none⟩=some (.slice BD kD dD):=(cellE wr).trans HS.out.2.2.2.1;have d5:w7.cell? ⟨w.heap.size,2,none⟩=some (.slice (some ⟨bd,od,none⟩) (n+1) dc):=(cellE wr).trans HS.out.2.2.2.2))
     all_goals
      go_wp2
      go_meet
      exact ⟨Lib.hid (Box.put (heap_of_ext (inferInstance:Ext wr w7) HBK.out) hz7),((hxr.trans (inferInstance:Ext wr w7)).setCell (p:=⟨wl.heap.size,0,none⟩) (Nat.le_refl _) _).setCell (p:=⟨wl.heap.size,1,none⟩) (Nat.le_refl _) _⟩
    case rest=>
     obtain ⟨w2,rfl⟩:∃w2:World,w2=wc:=⟨_,rfl⟩
     obtain ⟨HC2,hx2⟩:=hcut
     have hxw2:Ext w w2:=hxw.trans hx2
     obtain ⟨gd,Bd',kd,dd',-,r1,r2,-,-,r5,hzc⟩:=HC2.out.cells
     have HZC2:=Lib.hid hzc
     have oC2:Old wl.heap.size w2:=⟨r5⟩
     have oB2:Old bm w2:=⟨Nat.lt_of_lt_of_le g6 hxw2.size⟩
     have oE2:Old b0 w2:=⟨Nat.lt_of_lt_of_le p3 hxw2.size⟩
     have oP3:Old p w2:=⟨Nat.lt_of_lt_of_le l5 hx2.size⟩
     have z1:w2.cell? ⟨p,0,none⟩=some (.bool gl):=(cellE wl).trans HCL.out.1
     have z2:w2.cell? ⟨p,1,none⟩=some (.slice Bl kl dl):=(cellE wl).trans HCL.out.2
     have z3:w2.cell? ⟨bm,om,none⟩=some (.slice (some ⟨b0,o0,none⟩) (k+1) c0):=(cellE w).trans g3
     have z4:w2.cell? ⟨b0,o0,none⟩=some (.bool gE):=(cellE w).trans p1
     have z5:w2.cell? ⟨b0,o0+1,none⟩=some (.slice BE kE dE):=(cellE w).trans p2
     have HS2:=Lib.hid (And.intro r1 (And.intro r2 (And.intro z1 (And.intro z2 (And.intro z3 (And.intro z4 z5))))))
     clear r1 r2 z1 z2 z3 z4 z5 hzc HBK HF3 HS HZC HCS HC2
     go_wp2_with fail
     go_cut [14] (fun s14 wx=>∃p4,s14= .pointer (some ⟨p4,0,none⟩)/\Hid (Box wx p4 (isq (fD m s k t 0*fD m s k t 0-fB m s 0 0*(fC m s t-bound*lastE (ent m) s)).toNat:Int))/\Ext w2 wx)
     case first=>
      go_region_held3 (fun w'=>w'.cell? ⟨wl.heap.size,0,none⟩=some (.bool gd)/\w'.cell? ⟨wl.heap.size,1,none⟩=some (.slice Bd' kd dd')/\w'.cell? ⟨p,0,none⟩=some (.bool gl)/\w'.cell? ⟨p,1,none⟩=some (.slice Bl kl dl)/\w'.cell? ⟨bm,om,none⟩=some (.slice (some ⟨b0,o0,none⟩) (k+1) c0)/\w'.cell? ⟨b0,o0,none⟩=some (.bool gE)/\w'.cell? ⟨b0,o0+1,none⟩=some (.slice BE kE dE))
       (exact ⟨(cellE w2).trans HS2.out.1,(cellE w2).trans HS2.out.2.1,(cellE w2).trans HS2.out.2.2.1,(cellE w2).trans HS2.out.2.2.2.1,(cellE w2).trans HS2.out.2.2.2.2.1,(cellE w2).trans HS2.out.2.2.2.2.2.1,(cellE w2).trans HS2.out.2.2.2.2.2.2⟩)
       (first
        |(go_at_call_of 171 (Value.agg #[.bool gl,.slice Bl kl dl]);refine (rMulB HZL.out HZL.out HB.out.l HB.out.l).mono ?_;rintro e w5 ⟨g5,B5,k5,d5,rfl,hz5,hs5⟩)
        |(go_at_call_of 171 (Value.agg #[.bool gE,.slice BE kE dE]);refine (rMulB HZE.out HZC2.out HB.out.b0 HB.out.c2).mono ?_;rintro e w6 ⟨g6',B6,k6,d6,rfl,hz6,hs6⟩)
        |(go_at_call 172;refine (rSubB hz5 hz6 HB.out.ll HB.out.bc).mono ?_;rintro e w7 ⟨g7,B7,k7,d7,rfl,hz7,hs7⟩)
        |(go_at_call 173;refine (rSqrtB hz7 HB.out.di HE.out.1).mono ?_;rintro e w8 ⟨g8,B8,k8,d8,rfl,hz8,hs8⟩))
      all_goals (go_wp2_with fail;go_meet;exact ⟨_,rfl,Lib.hid ⟨g8,B8,k8,d8,BlkAt.eq,hz8.keeps⟩,inferInstance⟩)
     case rest=>
      obtain ⟨w9,rfl⟩:∃w9:World,w9=wc:=⟨_,rfl⟩
      obtain ⟨p4,rfl,HR4,hx9⟩:=hcut
      obtain ⟨gr,Br,kr,dr,-,r1,r2,-,-,r5,hzr⟩:=HR4.out.cells
      have HZR:=Lib.hid hzr
      have oR9:Old p4 w9:=⟨r5⟩
      have hxw9:Ext w w9:=hxw2.trans hx9
      have hxl9:Ext wl w9:=hx2.trans hx9
      have HSS:=Lib.hid (And.intro (HB.out.rt HE.out.1) (And.intro (HB.out.df HE.out.1) (HB.out.sm HE.out.1)))
      have HE2:=Lib.hid HE.out.2
      generalize (isq (fD m s k t 0*fD m s k t 0-fB m s 0 0*(fC m s t-bound*lastE (ent m) s)).toNat:Int)=R at*
      have HKP:Hid (∀W,Ext w9 W->W.cell? ⟨p4,0,none⟩=some (.bool gr)/\W.cell? ⟨p4,1,none⟩=some (.slice Br kr dr)/\W.cell? ⟨p,0,none⟩=some (.bool gl)/\W.cell? ⟨p,1,none⟩=some (.slice Bl kl dl)/\W.cell? ⟨bm,om,none⟩=some (.slice (some ⟨b0,o0,none⟩) (k+1) c0)/\W.cell? ⟨b0,o0,none⟩=some (.bool gE)/\W.cell? ⟨b0,o0+1,none⟩=some (.slice BE kE dE)):=Lib.hid (fun W e=>by
       have e2:Ext w2 W:=hx9.trans e
       exact ⟨(cellE w9).trans r1,(cellE w9).trans r2,(cellE w2).trans HS2.out.2.2.1,(cellE w2).trans HS2.out.2.2.2.1,(cellE w2).trans HS2.out.2.2.2.2.1,(cellE w2).trans HS2.out.2.2.2.2.2.1,(cellE w2).trans HS2.out.2.2.2.2.2.2⟩)
      clear r1 r2 hzr HR4
      go_wp2_with fail
      go_cut [16] (fun s16 wx=>s16= .int .i64 hi/\Ext w9 wx)
      case first=>
       go_region_held3 (fun w'=>w'.cell? ⟨p4,0,none⟩=some (.bool gr)/\w'.cell? ⟨p4,1,none⟩=some (.slice Br kr dr)/\w'.cell? ⟨p,0,none⟩=some (.bool gl)/\w'.cell? ⟨p,1,none⟩=some (.slice Bl kl dl)/\w'.cell? ⟨bm,om,none⟩=some (.slice (some ⟨b0,o0,none⟩) (k+1) c0)/\w'.cell? ⟨b0,o0,none⟩=some (.bool gE)/\w'.cell? ⟨b0,o0+1,none⟩=some (.slice BE kE dE))
        (exact HKP.out _ inferInstance)
        (first
         |(go_at_call 172;refine (rSubB HZR.out HZL.out HSS.out.1 HB.out.l).mono ?_;rintro e w5 ⟨g5,B5,k5,d5,rfl,hz5,hs5⟩)
         |(go_at_call 174;refine (rQuoB hz5 HZE.out HSS.out.2.1 HB.out.b0 HE2.out.2.2).mono ?_;rintro e w6 ⟨g6',B6,k6,d6,rfl,hz6,hs6⟩;rw [HE2.out.1] at hz6)
         |(go_at_call 140;refine (rInt64_fit hz6 HHI.out.1 HHI.out.2).mono ?_;rintro e w7 ⟨rfl,hs7⟩))
       all_goals (go_wp2_with fail;go_meet;exact ⟨rfl,inferInstance⟩)
      case rest=>
       obtain ⟨wz,rfl⟩:∃wz:World,wz=wc:=⟨_,rfl⟩
       obtain ⟨rfl,hxz⟩:=hcut
       have hxwz:Ext w wz:=hxw9.trans hxz
       have hxlz:Ext wl wz:=hxl9.trans hxz
       go_wp2_with fail
       go_region_held3 (fun w'=>w'.cell? ⟨p4,0,none⟩=some (.bool gr)/\w'.cell? ⟨p4,1,none⟩=some (.slice Br kr dr)/\w'.cell? ⟨p,0,none⟩=some (.bool gl)/\w'.cell? ⟨p,1,none⟩=some (.slice Bl kl dl)/\w'.cell? ⟨bm,om,none⟩=some (.slice (some ⟨b0,o0,none⟩) (k+1) c0)/\w'.cell? ⟨b0,o0,none⟩=some (.bool gE)/\w'.cell? ⟨b0,o0+1,none⟩=some (.slice BE kE dE))
        (exact HKP.out _ (hxz.trans inferInstance))
        (first
         |(go_at_call 170;refine (rAddB HZR.out HZL.out HSS.out.1 HB.out.l).mono ?_;rintro e w5 ⟨g5,B5,k5,d5,rfl,hz5,hs5⟩)
         |(go_at_call 174;refine (rQuoB hz5 HZE.out HSS.out.2.2 HB.out.b0 HE2.out.2.2).mono ?_;rintro e w6 ⟨g6',B6,k6,d6,rfl,hz6,hs6⟩)
         |(go_at_call 150;refine (rNegB hz6 ⟨(HSS.out.2.2.bd).div _⟩).mono ?_;rintro e w7 ⟨g7,B7,k7,d7,rfl,hz7,hs7⟩;rw [HE2.out.2.1] at hz7)
         |(go_at_call 140;refine (rInt64_fit hz7 HLO.out.1 HLO.out.2).mono ?_;rintro e w8 ⟨rfl,hs8⟩))
       all_goals
        go_wp2_with fail
        go_ret2
        exact ⟨rfl,Step.of _ _⟩
theorem Only.oth {w w':World} {T:TypeId} {g:Nat} {cs:Array Value} {fr:Nat×Nat} (h:Only g w w') (hg:w.heap[g]? =some (.cells cs T fr)):Oth T w w':=fun b cs' e fr' hn hb=>by
 rcases Nat.lt_trichotomy b g with hlt |rfl |hgt
 ·exact (h.below.block b hlt).trans hb
 ·rw [hg] at hb
  injection hb with hb
  injection hb with _ he
  exact absurd he.symm hn
 ·exact (h.rest b hgt (lt_of_heap hb)).trans hb
def RetCnt (w:World) (m:List (List Int)) (bound:Int) (budget:Int) (k:Nat) (t cs:List Int) (g:Nat) (e:Ending) (w':World):Prop:=∃(ok:Bool) (cs':List Int),e= .returned (.bool ok)/\Only g w w'/\Row w' g 3 .i64 cs'/\cs'.length=cs.length/\(ok=true->cs'=addY cs (ysT m bound k t)/\cs.sum+totY (ysT m bound k t)<=budget)/\(ok=false->budget<cs.sum+totY (ysT m bound k t))
theorem getD_le_sum {cs:List Int} (h:∀x∈cs,0<=x) (i:Nat):0<=cs.getD i 0/\cs.getD i 0<=cs.sum:=by
 induction cs generalizing i with
 |nil=>simp
 |cons a cs ih=>
  have ha:=h a (by simp)
  have hc:=fun i=>ih (fun x hx=>h x (by simp [hx])) i
  have h0:0<=cs.sum:=by have :=hc 0;omega
  cases i with
  |zero=>simp only [List.getD_cons_zero,List.sum_cons];omega
  |succ i=>have :=hc i;simp only [List.getD_cons_succ,List.sum_cons];omega
theorem addY_nonneg {cs:List Int} {ys:List (Int×Int)} (h:∀x∈cs,0<=x) (hy:∀p∈ys,0<=p.2):∀x∈addY cs ys,0<=x:=fun x hx=>by
 unfold addY at hx
 rw [List.mem_map] at hx
 obtain ⟨i,-,rfl⟩:=hx
 have :=(getD_le_sum h i).1
 have :=atY_nonneg hy i
 omega
theorem take_sum_bd {cs:List Int} (h:∀x∈cs,0<=x) (k:Nat):0<=(cs.take k).sum/\(cs.take k).sum<=cs.sum:=by
 have h1:=getD_le_sum (cs:=cs.take k) (fun x hx=>h x (List.mem_of_mem_take hx)) 0
 have h2:=getD_le_sum (cs:=cs.drop k) (fun x hx=>h x (List.mem_of_mem_drop hx)) 0
 have e:cs.sum=(cs.take k).sum+(cs.drop k).sum:=by rw [<-List.sum_append,List.take_append_drop]
 omega
set_option maxRecDepth 20000 in
theorem rcount_ok {m:List (List Int)} {n:Nat} {bound budget:Int} (hL:LLLed m) (h1:m.length=n) (hb:0<=bound) (hb1:bound<1073741824) (hu0:0<=budget) (hu1:budget<=1000000) (k:Nat):
  ∀(w:World) (SB DB TA:Option Addr) (sc dc tc q g:Nat) (t cs:List Int),n=k+q+1->FrV w m SB DB->Ints w TA 2 .i64 t->t.length=q->(∀a∈t,-9223372036854775808<=a/\a<=9223372036854775807)->0<=left (ent m) bound (k+1) t->Row w g 3 .i64 cs->cs.length=n->(∀x∈cs,0<=x)->cs.sum<=budget->
  Calls Tryz.prog 63 #[.agg #[.int .i64 n,.slice SB n sc,.slice DB (n+1) dc],.int .i64 bound,.slice TA q tc,.slice (some ⟨g,0,none⟩) n n,.int .i64 budget] w (RetCnt w m bound budget k t cs g):=by
 induction k using Nat.strongRecOn with
 |ind k ih=>
  intro w SB DB TA sc dc tc q g t cs hq hF hT htl htb h0 hR hcl hc0 hcs
  have IH:=Lib.hid ih
  clear ih
  have hr:=red_ok hL.red
  have hn8:=hL.len8
  have hkm:k<m.length:=by omega
  have htm:t.length=m.length-1-k:=by omega
  obtain ⟨v1,v2,v3,v4,v5,v6⟩:=ends_small hr hb hb1 hkm htm h0
  have HIV:Hid (∀W,Ext w W->Calls Tryz.prog 108 #[.agg #[.int .i64 n,.slice SB n sc,.slice DB (n+1) dc],.int .i64 bound,.slice TA q tc] W (RetVal W (.tuple #[.int .i64 (tLo m bound k t),.int .i64 (tHi m bound k t)]))):=Lib.hid (fun W e=>
   rInterval_ok hF hL h1 hq hT htl htb (by omega) (by omega) h0 (by omega) (by omega) (by omega) (by omega))
  have hys:=ysT_cons hr hkm bound t htm
  have hok:=ysT_ok hr hb hb1 hkm htm h0
  rw [h1] at hys
  unfold RetCnt
  have hgs:g<w.heap.size:=hR.lt
  have hq8:q<cs.length:=by omega
  have hgd:=getD_le_sum hc0 q
  obtain ⟨y0,hy0,hcell⟩:=hR.cell (i:=q) hq8
  have hyd:cs.getD q 0=y0:=by simp [List.getD,hy0]
  rw [hyd] at hgd
  have hone:=addY_one (cs:=cs) (i:=q) (z:=tHi m bound k t-tLo m bound k t+1) hq8
  rw [hyd] at hone
  have hnk:(n:Int)-(k:Nat)=(q:Int)+1:=by omega
  rw [hnk] at hys
  have hok1:∀p∈[((q:Int)+1,tHi m bound k t-tLo m bound k t+1)],0<=p.2/\1<=p.1/\p.1<=(cs.length:Int):=fun p hp=>by
   have :=hok p (by rw [hys];exact List.mem_cons.2 (.inl (by simpa using hp)))
   omega
  have hsum1:=addY_sum (cs:=cs) (ys:=[((q:Int)+1,tHi m bound k t-tLo m bound k t+1)]) (fun p hp=>(hok1 p hp).2)
  rw [hone] at hsum1
  simp only [totY,Int.add_zero] at hsum1
  have hn1:∀x∈cs.set q (y0+(tHi m bound k t-tLo m bound k t+1)),0<=x:=by
   rw [<-hone];exact addY_nonneg hc0 (fun p hp=>(hok1 p hp).1)
  have hrest:∀p∈ysR m bound k t,0<=p.2/\1<=p.1/\p.1<=(m.length:Int):=fun p hp=>hok p (by rw [hys];exact List.mem_cons_of_mem _ hp)
  have hrt:=totY_nonneg (fun p hp=>(hrest p hp).1)
  have htot:totY (ysT m bound k t)=(tHi m bound k t-tLo m bound k t+1)+totY (ysR m bound k t):=by rw [hys];rfl
  have hadd:addY cs (ysT m bound k t)=addY (cs.set q (y0+(tHi m bound k t-tLo m bound k t+1))) (ysR m bound k t):=by rw [<-hone,addY_append,hys];rfl
  have hzero:tHi m bound k t-tLo m bound k t+1=0->ysR m bound k t=[]/\cs.set q (y0+(tHi m bound k t-tLo m bound k t+1))=cs:=fun e=>by
   refine ⟨?_,?_⟩
   ·cases k with
    |zero=>rfl
    |succ k=>show ysK m bound k t (tCnt m bound (k+1) t)=[];rw [show tCnt m bound (k+1) t=0 by unfold tCnt;omega];rfl
   ·rw [e,Int.add_zero]
    obtain ⟨h5,h6⟩:=List.getElem?_eq_some_iff.1 hy0
    rw [<-h6,List.set_getElem_self]
  rw [htot,hadd]
  have HZR:=Lib.hid hzero
  have HN1:=Lib.hid hn1
  have HFV:=Lib.hid hF
  have HTV:=Lib.hid hT
  have HTB:=Lib.hid htb
  have H0:=Lib.hid h0
  have HH1:=Lib.hid h1
  have HTL:=Lib.hid htl
  have HQ:=Lib.hid hq
  have HRW:=Lib.hid hR
  have hfr:=hR.frozen q
  clear hok hys hone hok1 hrest htot hadd hzero hn1 hy0 hyd hF hT htb h0 hR htm hr hc0
  obtain ⟨rest,hrs⟩:∃rest,rest=ysR m bound k t:=⟨_,rfl⟩
  have HRS:=Lib.hid hrs
  rw [<-hrs] at hrt HZR |-
  clear hrs
  obtain ⟨lo,hlo⟩:∃lo,lo=tLo m bound k t:=⟨_,rfl⟩
  obtain ⟨hi,hhi⟩:∃hi,hi=tHi m bound k t:=⟨_,rfl⟩
  have HLO:=Lib.hid (And.intro hlo hhi)
  rw [<-hlo] at v1 v2 v3 v4 hsum1 HZR HN1 HIV |-
  rw [<-hhi] at v1 v2 v5 v6 hsum1 HZR HN1 HIV |-
  have hqn:q<n:=by omega
  have hn9:n<=8:=by omega
  clear hlo hhi h1 hkm hq hnk htl
  obtain ⟨cs1,hcs1⟩:∃cs1,cs1=cs.set q (y0+(hi-lo+1)):=⟨_,rfl⟩
  have hcl1:cs1.length=n:=by rw [hcs1,List.length_set];exact hcl
  have HCS1:=Lib.hid hcs1
  rw [<-hcs1] at hsum1 HZR HN1 |-
  clear hcs1
  have ogw:Old g w:=⟨hgs⟩
  go_enter Tryz.func63,Tryz.ntmps63
  by_cases hneg:hi<lo
  ·have HH:=Lib.hid (HZR.out (by omega))
   have HX0:=Lib.hid HRW.out
   go_wp2_with (go_at_call 108;refine (HIV.out _ inferInstance).mono ?_;rintro e w1 ⟨rfl,hs1⟩)
   go_ret
   refine ⟨true,cs,rfl,Only.of_ext inferInstance (Nat.le_of_lt hgs),HX0.out.ext inferInstance,rfl,fun _=>⟨?_,?_⟩,fun h=>by cases h⟩
   ·rw [HH.out.1,HH.out.2,addY_nil]
   ·rw [HH.out.1];simp only [totY];omega
  ·by_cases hbig:budget<=hi-lo
   ·have HX0:=Lib.hid HRW.out
    have HCL:=Lib.hid (show budget<cs.sum+(hi-lo+1+totY rest) by have :=hgd;omega)
    have hbb:decide (budget<=hi-lo)=true:=by simpa using hbig
    go_wp2_with (go_at_call 108;refine (HIV.out _ inferInstance).mono ?_;rintro e w1 ⟨rfl,hs1⟩)
    go_ret
    exact ⟨false,cs,rfl,Only.of_ext inferInstance (Nat.le_of_lt hgs),HX0.out.ext inferInstance,rfl,(fun h=>by cases h),fun _=>HCL.out⟩
   ·have hw1:IntKind.i64.wrap (y0+(hi-lo+1))=y0+(hi-lo+1):=by rw [IntKind.wrap_i64];omega
    go_upto_region 7 with (go_at_call 108;refine (HIV.out _ inferInstance).mono ?_;rintro e w1 ⟨rfl,hs1⟩)
    have hc1:w1.cell? ⟨g,q,none⟩=some (.int .i64 y0):=(cellE w).trans hcell
    have hf1:w1.frozen? ⟨g,q,none⟩=false:=(frozenE w).trans hfr
    have hg1:g<w1.heap.size:=Nat.lt_of_lt_of_le hgs (inferInstance:Ext w w1).size
    have hR1:Row (w1.setCell ⟨g,q,none⟩ (.int .i64 (y0+(hi-lo+1)))) g 3 .i64 cs1:=by
     rw [HCS1.out]
     exact (HRW.out.ext (inferInstance:Ext w w1)).set q _
    have hO1:Only g w (w1.setCell ⟨g,q,none⟩ (.int .i64 (y0+(hi-lo+1)))):=(Only.of_ext (inferInstance:Ext w w1) (Nat.le_of_lt hgs)).trans (Only.set hg1 q _)
    have hfb:w1.heap[w.heap.size]? =some (.cells #[.int .i64 n,.slice SB n sc,.slice DB (n+1) dc] 89 (0,0)):=heap_of_ext (inferInstance:Ext (w.alloc (.cells #[.int .i64 n,.slice SB n sc,.slice DB (n+1) dc] 89)) w1) (heap_alloc_new w _)
    have hfb1:(w1.setCell ⟨g,q,none⟩ (.int .i64 (y0+(hi-lo+1)))).heap[w.heap.size]? =some (.cells #[.int .i64 n,.slice SB n sc,.slice DB (n+1) dc] 89 (0,0)):=(Below.heap_setCell w1 ⟨g,q,none⟩ _ w.heap.size (by simp;omega)).trans hfb
    have HFB:=Lib.hid hfb1
    have HR1:=Lib.hid hR1
    have HO1:=Lib.hid hO1
    clear hfb hfb1 hR1 hO1
    go_upto_region 8 with fail
    have hgl:g<w.heap.size:=hgs
    generalize w1.setCell ⟨g,q,none⟩ (.int .i64 (y0+(hi-lo+1)))=ws at*
    have hgs1:g<ws.heap.size:=HR1.out.lt
    have hws:w.heap.size<ws.heap.size:=lt_of_heap HFB.out
    have HSB:Hid (∀j,0<=(cs1.take j).sum/\(cs1.take j).sum<=cs1.sum):=Lib.hid (fun j=>take_sum_bd HN1.out j)
    have hc2:cs1.sum<=2000001:=by omega
    have HOT:=Lib.hid (HO1.out.oth HRW.out)
    clear hcell hfr hc1 hf1 hs1 hw1 HRW HCS1
    go_wp2_with fail
    go_loopw [14,47] (fun s14 i wr=>∃j:Nat,j<=n/\i= .int .i64 j/\s14= .int .i64 (cs1.take j).sum/\Ext ws wr) (fun _ i _=>n-(intOf i).toNat)
    case atStart=>exact ⟨0,by omega,rfl,by simp,inferInstance⟩
    case round=>
     obtain ⟨j,hj,rfl,rfl,hxr⟩:=hrel
     by_cases hlt:j<n
     ·obtain ⟨y,hy,hcy⟩:=(HR1.out.ext hxr).cell (i:=j) (by omega)
      have hsb:=HSB.out j
      have hsb1:=HSB.out (j+1)
      have hts:=sum_take_succ cs1 j y hy
      rw [hts] at hsb1
      have HT:=Lib.hid hts
      have hw2:IntKind.i64.wrap ((cs1.take j).sum+y)=(cs1.take j).sum+y:=by rw [IntKind.wrap_i64];omega
      clear hts hy
      go_wp2_with fail
      exact ⟨⟨j+1,by omega,by go_num,by rw [HT.out],inferInstance⟩,by simp [intOf]<;>omega⟩
     ·obtain rfl:j=n:=by omega
      have htk:(cs1.take j).sum=cs1.sum:=by rw [List.take_of_length_le (by omega)]
      rw [htk]
      obtain ⟨wt,hwt⟩:∃wt:World,wt=wr:=⟨_,rfl⟩
      by_cases hov:budget<cs1.sum
      ·have hov2:decide (budget<cs1.sum)=true:=by simpa using hov
       go_wp2_with fail
       go_ret
       exact ⟨false,cs1,rfl,(HO1.out.trans (Only.of_ext (inferInstance:Ext ws wr) (Nat.le_of_lt hgs1))),HR1.out.ext inferInstance,by omega,(fun h=>by cases h),fun _=>by omega⟩
      ·have hov2:decide (budget<cs1.sum)=false:=by simpa using hov
       obtain ⟨wL,rfl⟩:∃wL:World,wL=wr:=⟨_,rfl⟩
       clear hwt htk
       have HRL:=Lib.hid (HR1.out.ext hxr)
       have HOL:=Lib.hid (HO1.out.trans (Only.of_ext hxr (Nat.le_of_lt hgs1)))
       have HFL:=Lib.hid (heap_of_ext hxr HFB.out)
       have HTL2:=Lib.hid (HOT.out.trans (Oth.of_ext hxr))
       have hgL:g<wL.heap.size:=HRL.out.lt
       have hwL:w.heap.size<wL.heap.size:=lt_of_heap HFL.out
       have HFW:Hid (∀W,Only g wL W->W.heap[w.heap.size]? =some (.cells #[.int .i64 j,.slice SB j sc,.slice DB (j+1) dc] 89 (0,0))):=Lib.hid (fun W h=>(h.rest w.heap.size hgl hwL).trans HFL.out)
       clear hlt hj
       cases k with
       |zero=>
        have hb0:decide ((q:Int)+1<(j:Int))=false:=by have :=HQ.out;simp;omega
        obtain ⟨⟨f0,-,-⟩,-,-⟩:=blk3 (HFW.out wL (Only.refl _ _))
        have hre:rest=[]:=HRS.out
        go_wp2_with fail
        go_loopw [17] (fun x wr=>x= .int .i64 lo/\Ext wL wr) (fun _ _=>0)
        case atStart=>exact ⟨rfl,inferInstance⟩
        case round=>
         obtain ⟨rfl,hxq⟩:=hrel
         have oW:Old w.heap.size wL:=⟨hwL⟩
         have f1:wr.cell? ⟨w.heap.size,0,none⟩=some (.int .i64 j):=(cellE wL).trans f0
         go_wp2_with fail
         go_ret
         refine ⟨true,cs1,rfl,HOL.out.trans (Only.of_ext hxq (Nat.le_of_lt hgL)),HRL.out.ext hxq,by omega,fun _=>⟨?_,?_⟩,fun h=>by cases h⟩
         ·rw [hre,addY_nil]
         ·rw [hre];simp only [totY];omega
       |succ k=>
        have hr:=red_ok hL.red
        have hq0:=HQ.out
        have hmj:=HH1.out
        have htq:=HTL.out
        have hkm:k+1<m.length:=by omega
        have htm:t.length=m.length-1-(k+1):=by omega
        obtain ⟨hlo,hhi⟩:=HLO.out
        obtain ⟨J,hJ⟩:∃J,J=tCnt m bound (k+1) t:=⟨_,rfl⟩
        have hJ2:J=(hi-lo+1).toNat:=by rw [hJ,hlo,hhi];rfl
        have hre:rest=ysK m bound k t J:=by rw [hJ];exact HRS.out
        have HK1:Hid (∀i,i<J->0<=left (ent m) bound (k+1) ((lo+(i:Int))::t)):=Lib.hid (fun i hi'=>by
         rw [hlo]
         exact kid hr t hkm htm H0.out (j:=i) (by rw [hJ] at hi';exact hi'))
        have HK2:Hid (∀i,i<=J->(addY cs1 (ysK m bound k t i)).sum=cs1.sum+totY (ysK m bound k t i)/\(∀x∈addY cs1 (ysK m bound k t i),0<=x)/\totY (ysK m bound k t i)<=totY rest):=Lib.hid (fun i hi'=>by
         have hk:=ysK_ok hr hb hb1 hkm htm H0.out (q:=i) (by omega)
         refine ⟨addY_sum (fun p hp=>by have :=hk p hp;omega),addY_nonneg HN1.out (fun p hp=>(hk p hp).1),?_⟩
         rw [hre]
         exact totK_mono hr hb hb1 hkm htm H0.out hi' (by omega))
        have HK4:Hid (∀i:Nat,addY (addY cs1 (ysK m bound k t i)) (ysT m bound k ((lo+(i:Int))::t))=addY cs1 (ysK m bound k t (i+1))/\totY (ysK m bound k t (i+1))=totY (ysK m bound k t i)+totY (ysT m bound k ((lo+(i:Int))::t))):=Lib.hid (fun i=>by
         rw [addY_append,ysK_succ,<-hlo,totY_append]
         exact ⟨rfl,rfl⟩)
        have HRE:=Lib.hid hre
        have HTBJ:Hid (∀i,i<J->∀a∈(lo+(i:Int))::t,-9223372036854775808<=a/\a<=9223372036854775807):=Lib.hid (fun i hi' a ha=>by
         rcases List.mem_cons.1 ha with rfl |ha
         ·omega
         ·exact HTB.out a ha)
        have hq1:q+1<j:=by omega
        have hJn:0<J:=by omega
        have hhl:hi-lo+1=(J:Int):=by omega
        have HIH:=Lib.hid (IH.out k (by omega))
        clear hre hr hq0 hmj htq hkm htm hlo hhi hJ hJ2 IH
        go_wp2_with fail
        go_loopw [17] (fun x wr=>∃i:Nat,i<=J/\x= .int .i64 (lo+(i:Int))/\Hid (Row wr g 3 .i64 (addY cs1 (ysK m bound k t i)))/\Hid (Only g wL wr)/\Hid (cs1.sum+totY (ysK m bound k t i)<=budget)) (fun x _=>(hi-intOf x+1).toNat)
        case atStart=>exact ⟨0,by omega,by simp,Lib.hid (by show Row wL g _ _ (addY cs1 []);rw [addY_nil];exact HRL.out),Lib.hid (Only.refl _ _),Lib.hid (by show cs1.sum+0<=budget;omega)⟩
        case round=>
         obtain ⟨i,hi',rfl,HRI,HOI,HBI⟩:=hrel
         have hfr:=HFW.out wr HOI.out
         obtain ⟨⟨f0,f1,f2⟩,-,f3⟩:=blk3 hfr
         have oW:Old w.heap.size wr:=⟨f3⟩
         by_cases hlt:i<J
         ·have hgr:g<wr.heap.size:=HRI.out.lt
          have hOT:Oth 3 w wr:=HTL2.out.trans (HOI.out.oth HRL.out)
          have hF:=HFV.out.oth hOT (by decide) (by decide) (by decide) (by decide)
          have hT:=HTV.out.oth hOT (by decide)
          obtain ⟨k1,k2,k3⟩:=HK2.out i (by omega)
          obtain ⟨k4,k5⟩:=HK4.out i
          have k6:=(HK2.out (i+1) (by omega)).2.2
          have HK6:=Lib.hid (show cs1.sum+totY (ysK m bound k t i)+totY (ysT m bound k ((lo+(i:Int))::t))<=cs1.sum+totY rest by omega)
          have hle:lo+(i:Int)<=hi:=by omega
          have HLG:Hid (∀W,Ext wr W->Calls Tryz.prog 109 #[.int .i64 (lo+(i:Int)),.slice TA q tc] W (fun e w'=>∃A c,e= .returned (.slice A (q+1) c)/\Ints w' A 2 .i64 ((lo+(i:Int))::t)/\Step W w')):=Lib.hid (fun W e=>by
           have :=rlonger_ok (w:=W) (c:=tc) (lo+(i:Int)) hT (by rw [HTL.out];omega)
           rw [HTL.out] at this
           refine this.mono ?_
           rintro e w' ⟨A,c,rfl,a1,-,-,a4⟩
           exact ⟨A,c,by rw [List.length_cons,HTL.out],a1,a4⟩)
          have HCN:Hid (∀(W:World) (A:Option Addr) (c:Nat),Ints W A 2 .i64 ((lo+(i:Int))::t)->Ext wr W->Calls Tryz.prog 63 #[.agg #[.int .i64 j,.slice SB j sc,.slice DB (j+1) dc],.int .i64 bound,.slice A (q+1) c,.slice (some ⟨g,0,none⟩) j j,.int .i64 budget] W (RetCnt W m bound budget k ((lo+(i:Int))::t) (addY cs1 (ysK m bound k t i)) g)):=Lib.hid (fun W A c hI e=>
           HIH.out W SB DB A sc dc c (q+1) g _ _ (by have :=HQ.out;omega) (hF.ext e) hI (by rw [List.length_cons,HTL.out]) (HTBJ.out i hlt) (HK1.out i hlt) (HRI.out.ext e) (by rw [addY_len];omega) k2 (by have :=HBI.out;omega))
          have HEX:Hid (∀W,Ext wr W->W.cell? ⟨w.heap.size,0,none⟩=some (.int .i64 j)/\W.cell? ⟨w.heap.size,1,none⟩=some (.slice SB j sc)/\W.cell? ⟨w.heap.size,2,none⟩=some (.slice DB (j+1) dc)):=Lib.hid (fun W e=>(blk3 (heap_of_ext e hfr)).1)
          have HEO:Hid (∀W,Only g wr W->W.cell? ⟨w.heap.size,0,none⟩=some (.int .i64 j)/\W.cell? ⟨w.heap.size,1,none⟩=some (.slice SB j sc)/\W.cell? ⟨w.heap.size,2,none⟩=some (.slice DB (j+1) dc)):=Lib.hid (fun W e=>(blk3 (HFW.out W (HOI.out.trans e))).1)
          unfold RetCnt at HCN
          obtain ⟨t2,ht2⟩:∃t2,t2=(lo+(i:Int))::t:=⟨_,rfl⟩
          rw [<-ht2] at HLG HCN HK6 k4 k5
          rw [k1] at HCN
          have HK45:=Lib.hid (And.intro k4 k5)
          clear hF hT hOT k1 k2 k3 k4 k5 k6 ht2 hfr
          generalize ysT m bound k t2=yT at*
          go_wp2_with fail
          go_region_held3 (fun w'=>w'.cell? ⟨w.heap.size,0,none⟩=some (.int .i64 j)/\w'.cell? ⟨w.heap.size,1,none⟩=some (.slice SB j sc)/\w'.cell? ⟨w.heap.size,2,none⟩=some (.slice DB (j+1) dc))
           (first |exact HEX.out _ inferInstance |exact HEO.out _ hOx)
           (first
            |(go_at_call 109;refine (HLG.out _ inferInstance).mono ?_;rintro e w5 ⟨A5,c5,rfl,hI5,hs5⟩)
            |(go_at_call 63;refine (HCN.out _ _ _ hI5 inferInstance).mono ?_;rintro e w6 ⟨ok,cs2,rfl,hO6,hR6,hl6,ht6,hf6⟩;have hOx:Only g wr w6:=(Only.of_ext (inferInstance:Ext wr w5) (Nat.le_of_lt hgr)).trans hO6))
          have hgw6:g<w6.heap.size:=hR6.lt
          have HR6:=Lib.hid hR6
          have HT6:=Lib.hid ht6
          have HF6:=Lib.hid hf6
          have HO6:=Lib.hid hOx
          have HXW:=Lib.hid (HOL.out.trans (HOI.out.trans hOx))
          have hal:=addY_len cs1 (ysK m bound k t i)
          have hl7:cs2.length=cs.length:=by omega
          clear hR6 ht6 hf6 hO6 hOx
          cases ok with
          |false=>
           go_wp2_with fail
           go_ret
           have h8:=HF6.out trivial
           have h9:=HK6.out
           exact .inl ⟨rfl,HXW.out.trans (Only.of_ext inferInstance (Nat.le_of_lt hgw6)),cs2,HR6.out.ext inferInstance,by omega,by omega⟩
          |true=>
           obtain ⟨h8,h9⟩:=HT6.out rfl
           have hw3:IntKind.i64.wrap (lo+(i:Int)+1)=lo+((i+1:Nat):Int):=by rw [IntKind.wrap_i64];omega
           have HS8:=Lib.hid h8
           have HK9:=Lib.hid h9
           clear h8 h9
           go_wp2_with fail
           refine ⟨⟨i+1,by omega,by first |rfl |(congr 1;omega),Lib.hid ?_,Lib.hid ?_,Lib.hid ?_⟩,by simp [intOf]<;>omega⟩
           ·have h1:=HR6.out
            rw [HS8.out,HK45.out.1] at h1
            exact h1.ext inferInstance
           ·exact (HOI.out.trans HO6.out).trans (Only.of_ext inferInstance (Nat.le_of_lt hgw6))
           ·rw [HK45.out.2]
            have :=HK9.out
            omega
         ·obtain rfl:i=J:=by omega
          have hend:decide (lo+(i:Int)<=hi)=false:=by simp;omega
          have hxr2:Only g w wr:=HOL.out.trans HOI.out
          go_wp2_with fail
          go_ret
          refine ⟨true,_,rfl,hxr2.trans (Only.of_ext inferInstance (by have :=HRI.out.lt;omega)),HRI.out.ext inferInstance,by rw [addY_len];omega,fun _=>⟨by rw [HRE.out],?_⟩,fun h=>by cases h⟩
          have :=HBI.out
          rw [HRE.out];omega
set_option maxRecDepth 20000 in
theorem rargs_ok {w0 w:World} {A:Option Addr} {c n:Nat} {m:List (List Int)} {bound most budget:Int} (hM:Mat64 w0 A m) (hL:LLLed m) (h1:m.length=n) (hb0:0<=bound) (hb1:bound<=most) (hu0:0<=budget) (hu1:budget<=1000000) [hx:Ext w0 w]:
  Calls Tryz.prog 61 #[.slice A n c,.int .i64 bound,.int .i64 most,.int .i64 budget] w (RetVal w (.int .i64 0)):=by
 have HR:=Lib.hid (fun W (e:Ext w0 W)=>rIsReduced_ok (w:=W) (c:=c) hM hL h1 hL.fits hL.bd)
 have c1:decide (bound<0)=false:=by simp;omega
 have c2:decide (most<bound)=false:=by simp;omega
 have c3:decide (budget<0)=false:=by simp;omega
 have c4:decide (1000000<budget)=false:=by simp;omega
 clear hM hL h1
 go_enter Tryz.func61,Tryz.ntmps61
 go_wp2_with (go_at_call 104;refine (HR.out _ inferInstance).mono ?_;rintro e w2 ⟨rfl,hs2⟩)
 go_ret
 exact ⟨rfl,Step.of _ _⟩
def RetSt (w:World) (m:List (List Int)) (n:Nat) (bound budget:Int) (e:Ending) (w':World):Prop:=
 (totS m bound<=budget/\∃g,e= .returned (.tuple #[.slice (some ⟨g,0,none⟩) n n,.int .i64 0])/\Row w' g 3 .i64 (stS m bound)/\w.heap.size<=g/\Step w w')∨(budget<totS m bound/\e= .returned (.tuple #[.slice none 0 0,.int .i64 9])/\Step w w')
set_option maxRecDepth 20000 in
theorem rSteps_ok {w0 w:World} {A:Option Addr} {c n:Nat} {m:List (List Int)} {bound budget:Int} (hM:Mat64 w0 A m) (hL:LLLed m) (h1:m.length=n) (hb:0<=bound) (hb1:bound<1073741824) (hu0:0<=budget) (hu1:budget<=1000000) [hx:Ext w0 w]:
  Calls Tryz.prog 35 #[.slice A n c,.int .i64 bound,.int .i64 budget] w (RetSt w m n bound budget):=by
 have hr:=red_ok hL.red
 have hn8:=hL.len8
 have hn1:=hL.len1
 have HAR:Hid (∀W,Ext w0 W->Calls Tryz.prog 61 #[.slice A n c,.int .i64 bound,.int .i64 4611686018427387904,.int .i64 budget] W (RetVal W (.int .i64 0))):=Lib.hid (fun W e=>rargs_ok hM hL h1 hb (by omega) hu0 hu1)
 have HOF:Hid (∀W,Ext w0 W->Calls Tryz.prog 62 #[.slice A n c] W (RetFr W m n)):=Lib.hid (fun W e=>rFrame_ok hM hL h1)
 have hmk:=run_make_ints (P:=Tryz.prog) (k:= .i64) Tryz.underlying29 infoInt_ (by omega) (n:Int) (by omega) (by omega)
 simp only [Int.toNat_natCast] at hmk
 have h0n:∀x∈List.replicate n (0:Int),0<=x:=fun x hx=>by rw [List.eq_of_mem_replicate hx];omega
 have hs0:(List.replicate n (0:Int)).sum=0:=by simp
 have htop:=top_nonneg hr hb
 have HCN:Hid (∀(W:World) (SB DB:Option Addr) (sc dc g:Nat),FrV W m SB DB->Row W g 3 .i64 (List.replicate n 0)->Calls Tryz.prog 63 #[.agg #[.int .i64 n,.slice SB n sc,.slice DB (n+1) dc],.int .i64 bound,.slice none 0 0,.slice (some ⟨g,0,none⟩) n n,.int .i64 budget] W (RetCnt W m bound budget (n-1) [] (List.replicate n 0) g)):=Lib.hid (fun W SB DB sc dc g hF hR=>
  rcount_ok hL h1 hb hb1 hu0 hu1 (n-1) W SB DB none sc dc 0 0 g [] _ (by omega) hF Ints.nil rfl (fun a ha=>by simp at ha) (by rw [h1] at htop;exact htop) hR (by simp) h0n (by rw [hs0];exact hu0))
 have e1:=totS_ys hr hb
 have e2:=stS_ys hr hb
 rw [h1] at e1 e2
 have HT:Hid (totS m bound=totY (ysT m bound (n-1) [])):=Lib.hid e1
 have HS:Hid (stS m bound=addY (List.replicate n 0) (ysT m bound (n-1) [])):=Lib.hid e2
 unfold RetCnt at HCN
 rw [hs0,Int.zero_add,<-HT.out,<-HS.out] at HCN
 unfold RetSt
 generalize totS m bound=tot at*
 generalize stS m bound=st at*
 clear hr hL h1 htop e1 e2 HT HS h0n hs0 hM
 obtain ⟨zs,hzs⟩:∃zs,zs=List.replicate n (0:Int):=⟨_,rfl⟩
 have HZS:=Lib.hid hzs
 rw [<-hzs] at HCN
 clear hzs
 go_enter Tryz.func35,Tryz.ntmps35
 go_wp2_with (first
  |(go_at_call 61;refine (HAR.out _ inferInstance).mono ?_;rintro e w1 ⟨rfl,hs1⟩)
  |(go_at_call 62;refine (HOF.out _ inferInstance).mono ?_;rintro e w2 ⟨SB,sc,DB,dc,rfl,hF,-,-,-,-,hs2⟩;have hR2:Row w2 w1.heap.size 3 .i64 zs:=(by rw [HZS.out];exact (Row.made w1 n .i64 3).ext inferInstance);have hx12:Ext w1 w2:=inferInstance;have hx02:Ext w w2:=inferInstance;have hws:w.heap.size<=w1.heap.size:=(inferInstance:Ext w w1).size)
  |(go_at_call 63;refine (HCN.out _ _ _ _ _ _ hF hR2).mono ?_;rintro e w6 ⟨ok,cs2,rfl,hO6,hR6,hl6,ht6,hf6⟩;have hx6:Ext w w6:=hO6.ext hx02 hws;have HR6:=Lib.hid hR6;have HT6:=Lib.hid ht6;have HF6:=Lib.hid hf6;clear hR6 ht6 hf6 hO6;cases ok))
 ·go_ret2
  exact .inr ⟨HF6.out trivial,rfl,hx6.toStep⟩
 ·obtain ⟨h8,h9⟩:=HT6.out trivial
  have h10:=HR6.out
  rw [h8] at h10
  go_ret2
  exact .inl ⟨h9,_,rfl,h10,hws,hx6.toStep⟩
def wid (p:Int×Int):Int:=p.2-p.1+1
theorem tE_cnt {m:List (List Int)} (hr:RedOK m) {b:Int} (hb:0<=b) (hb1:b<1073741824) (k:Nat):∀t:List Int,k<m.length->t.length=m.length-1-k->0<=left (ent m) b (k+1) t->
  ((tE m b k t).length:Int)+atY (ysT m b k t) (m.length-1)=1+totY (ysT m b k t)/\((tE m b k t).map wid).sum=totY (ysT m b k t):=by
 induction k with
 |zero=>
  intro t hk ht h0
  rw [ysT_zero]
  have e:tE m b 0 t=[(tLo m b 0 t,tHi m b 0 t)]:=rfl
  rw [e]
  simp only [atY,totY,List.length_singleton,List.map_cons,List.map_nil,List.sum_cons,List.sum_nil,wid]
  rw [if_pos (by omega)]
  constructor
  ·omega
  ·trivial
 |succ k ih=>
  intro t hk ht h0
  obtain ⟨v1,v2,-⟩:=ends_small hr hb hb1 hk ht h0
  have key:∀q:Nat,q<=tCnt m b (k+1) t->((((List.range q).flatMap fun (j:Nat)=>tE m b k ((tLo m b (k+1) t+(j:Int))::t)).length:Int)+atY (ysK m b k t q) (m.length-1)=q+totY (ysK m b k t q))/\(((List.range q).flatMap fun (j:Nat)=>tE m b k ((tLo m b (k+1) t+(j:Int))::t)).map wid).sum=totY (ysK m b k t q):=by
   intro q
   induction q with
   |zero=>intro _;exact ⟨by simp [ysK,atY,totY],by simp [ysK,totY]⟩
   |succ q ihq=>
    intro hq
    obtain ⟨a1,a2⟩:=ihq (by omega)
    obtain ⟨b1,b2⟩:=ih ((tLo m b (k+1) t+(q:Int))::t) (by omega) (by simp [ht];omega) (kid hr t hk ht h0 (j:=q) (by unfold tCnt tHi tLo at hq;unfold vCnt;omega))
    rw [List.range_succ,List.flatMap_append,List.flatMap_singleton,ysK_succ,atY_append,totY_append,List.length_append,List.map_append,List.sum_append]
    refine ⟨?_,by omega⟩
    rw [Int.natCast_add]
    omega
  obtain ⟨k1,k2⟩:=key _ (Nat.le_refl _)
  rw [ysT_succ hr hk b t ht,tE]
  simp only [atY,totY,List.length_cons,List.map_cons,List.sum_cons,wid]
  rw [if_neg (by omega)]
  unfold tCnt at k1
  unfold tCnt at k2
  unfold tCnt
  omega
theorem tTree_cnt {m:List (List Int)} (hr:RedOK m) {b:Int} (hb:0<=b) (hb1:b<1073741824):((tTree m b).length:Int)=1+((stS m b).take (m.length-1)).sum/\((tTree m b).map wid).sum=(stS m b).sum:=by
 have hl:=isSmallB_len hr.small
 obtain ⟨h1,h2⟩:=tE_cnt hr hb hb1 (m.length-1) [] (by omega) (by simp) (top_nonneg hr hb)
 have hok:=ysT_ok hr hb hb1 (k:=m.length-1) (t:=[]) (by omega) (by simp) (top_nonneg hr hb)
 have hst:=stS_ys hr hb
 have hsl:(stS m b).length=m.length:=by rw [hst,addY_len];simp
 have hsum:(stS m b).sum=totY (ysT m b (m.length-1) []):=by
  rw [hst,addY_sum (fun p hp=>by have :=hok p hp;simp;omega)]
  simp
 have hlast:(stS m b)[m.length-1]? =some (atY (ysT m b (m.length-1) []) (m.length-1)):=by
  have h3:m.length-1<(stS m b).length:=by omega
  have h4:(stS m b).getD (m.length-1) 0=atY (ysT m b (m.length-1) []) (m.length-1):=by
   rw [hst,addY_get (by simp;omega)]
   simp [List.getD,show m.length-1<m.length by omega]
  rw [<-h4]
  simp [List.getD,h3]
 have htk:=sum_take_succ (stS m b) (m.length-1) _ hlast
 rw [show m.length-1+1=m.length by omega,List.take_of_length_le (by omega)] at htk
 unfold tTree
 omega
theorem Grow.step {w w' w2:World} {base:Nat} {e:TypeId} (h:Grow base e w w') (h':Grow base e w' w2):Grow base e w w2:=⟨h.below.trans h'.below,fun k hk hne=>by
 have e1:=h.typed k hk hne
 exact (h'.typed k (Nat.lt_of_lt_of_le hk h.below.size) (fun cs fr hh=>hne cs fr (by rw [<-e1];exact hh))).trans e1⟩
theorem Grow.ofx {w w':World} {base:Nat} {e:TypeId} (h:Ext w w') (hb:base<=w.heap.size):Grow base e w w':=⟨h.below.mono hb,fun k hk _=>h.below.block k hk⟩
def ivF (C:List (Int×Int)):List Value:=C.flatMap fun p=>[.int .i64 p.1,.int .i64 p.2]
theorem ivF_append (C D:List (Int×Int)):ivF (C++D)=ivF C++ivF D:=by unfold ivF;rw [List.flatMap_append]
def tK (m:List (List Int)) (b:Int) (k:Nat) (t:List Int) (q:Nat):List (Int×Int):=(List.range q).flatMap fun (j:Nat)=>tE m b k ((tLo m b (k+1) t+(j:Int))::t)
theorem tK_succ (m:List (List Int)) (b:Int) (k:Nat) (t:List Int) (q:Nat):tK m b k t (q+1)=tK m b k t q++tE m b k ((tLo m b (k+1) t+(q:Int))::t):=by
 unfold tK
 rw [List.range_succ,List.flatMap_append,List.flatMap_singleton]
theorem tK_le (m:List (List Int)) (b:Int) (k:Nat) (t:List Int) {p q:Nat} (h:p<=q):(tK m b k t p).length<=(tK m b k t q).length:=by
 induction q with
 |zero=>obtain rfl:p=0:=by omega
        exact Nat.le_refl _
 |succ q ih=>
  rcases Nat.lt_or_ge p (q+1) with h1 |h1
  ·have :=ih (by omega)
   rw [tK_succ,List.length_append];omega
  ·obtain rfl:p=q+1:=by omega
   exact Nat.le_refl _
def tR (m:List (List Int)) (b:Int):Nat->List Int->List (Int×Int)
 |0,_=>[]
 |k+1,t=>tK m b k t (tCnt m b (k+1) t)
theorem tE_cons (m:List (List Int)) (b:Int) (k:Nat) (t:List Int):tE m b k t=(tLo m b k t,tHi m b k t)::tR m b k t:=by
 cases k with
 |zero=>rfl
 |succ k=>rfl
def RetTr (w:World) (base n:Nat) (xs:List Value) (T:List (Int×Int)) (e:Ending) (w':World):Prop:=∃A c,e= .returned (.slice A (n+T.length) c)/\Own w' base 64 2 A (n+T.length) c (xs++ivF T)/\Grow base 64 w w'
set_option maxRecDepth 20000 in
theorem rtree_ok {m:List (List Int)} {n base:Nat} {bound:Int} (hL:LLLed m) (h1:m.length=n) (hb:0<=bound) (hb1:bound<1073741824) (k:Nat):
  ∀(w:World) (SB DB TA OA:Option Addr) (sc dc tc oc q len:Nat) (t:List Int) (xs:List Value),n=k+q+1->FrV w m SB DB->Ints w TA 2 .i64 t->t.length=q->(∀a∈t,-9223372036854775808<=a/\a<=9223372036854775807)->0<=left (ent m) bound (k+1) t->Own w base 64 2 OA len oc xs->base<=w.heap.size->len+(tE m bound k t).length<=4000000->
  Calls Tryz.prog 65 #[.agg #[.int .i64 n,.slice SB n sc,.slice DB (n+1) dc],.int .i64 bound,.slice TA q tc,.slice OA len oc] w (RetTr w base len xs (tE m bound k t)):=by
 induction k using Nat.strongRecOn with
 |ind k ih=>
  intro w SB DB TA OA sc dc tc oc q len t xs hq hF hT htl htb h0 hO hbs hln
  have IH:=Lib.hid ih
  clear ih
  have hr:=red_ok hL.red
  have hn8:=hL.len8
  have hkm:k<m.length:=by omega
  have htm:t.length=m.length-1-k:=by omega
  obtain ⟨v1,v2,v3,v4,v5,v6⟩:=ends_small hr hb hb1 hkm htm h0
  have HIV:Hid (∀W,Ext w W->Calls Tryz.prog 108 #[.agg #[.int .i64 n,.slice SB n sc,.slice DB (n+1) dc],.int .i64 bound,.slice TA q tc] W (RetVal W (.tuple #[.int .i64 (tLo m bound k t),.int .i64 (tHi m bound k t)]))):=Lib.hid (fun W e=>
   rInterval_ok hF hL h1 hq hT htl htb (by omega) (by omega) h0 (by omega) (by omega) (by omega) (by omega))
  rw [tE_cons] at hln |-
  unfold RetTr
  obtain ⟨rest,hrs⟩:∃rest,rest=tR m bound k t:=⟨_,rfl⟩
  have HRS:=Lib.hid hrs
  rw [<-hrs] at hln |-
  obtain ⟨lo,hlo⟩:∃lo,lo=tLo m bound k t:=⟨_,rfl⟩
  obtain ⟨hi,hhi⟩:∃hi,hi=tHi m bound k t:=⟨_,rfl⟩
  have HLO:=Lib.hid (And.intro hlo hhi)
  rw [<-hlo] at v1 v2 v3 v4 HIV hln |-
  rw [<-hhi] at v1 v2 v5 v6 HIV hln |-
  have HFV:=Lib.hid hF
  have HTV:=Lib.hid hT
  have HTB:=Lib.hid htb
  have H0:=Lib.hid h0
  have HH1:=Lib.hid h1
  have HTL:=Lib.hid htl
  have HQ:=Lib.hid hq
  have HO:=Lib.hid hO
  have hqn:q<n:=by omega
  have hn9:n<=8:=by omega
  simp only [List.length_cons] at hln
  have hiv1:(((lo,hi)::rest).length)=rest.length+1:=rfl
  have hiv2:ivF ((lo,hi)::rest)=[.int .i64 lo,.int .i64 hi]++ivF rest:=rfl
  rw [hiv1,hiv2]
  clear hlo hhi h1 hkm hq htl hrs hF hT htb h0 hO hr htm hiv1 hiv2
  go_enter Tryz.func65,Tryz.ntmps65
  go_upto_region 3 with (first
   |(go_at_call 108;refine (HIV.out _ inferInstance).mono ?_;rintro e w1 ⟨rfl,hs1⟩;have hx1:Ext w w1:=inferInstance;have hbs1:base<=w1.heap.size:=Nat.le_trans hbs hx1.size)
   |(at_builtin;go_loud (refine wpList_app _ rfl _ _ 58 rfl base 64 (.agg #[.int .i64 0,.int .i64 0]) 2 16 Tryz.underlying58 infoIv rfl (by omega) (by omega) OA len oc _ rfl (HO.out.ext inferInstance) (some ⟨w1.heap.size,0,none⟩) 1 1 [.int .i64 lo,.int .i64 hi] rfl (Arr.new w1 64 #[.int .i64 lo,.int .i64 hi]) (by simp) (by simp [Value.oneCell']) (by omega) (by simp;omega) ?_);intro A2 c2 w2 hown hg))
  have HO2:=Lib.hid hown
  have HG2:=Lib.hid hg
  have hfb:w2.heap[w.heap.size]? =some (.cells #[.int .i64 n,.slice SB n sc,.slice DB (n+1) dc] 89 (0,0)):=hg.heap (heap_of_ext (inferInstance:Ext (w.alloc (.cells #[.int .i64 n,.slice SB n sc,.slice DB (n+1) dc] 89)) (w1.alloc (.cells #[.int .i64 lo,.int .i64 hi] 64))) (heap_alloc_new w _)) (by decide)
  have HFB:=Lib.hid hfb
  have HG0:Hid (Grow base 64 w w2):=Lib.hid ((Grow.ofx (inferInstance:Ext w (w1.alloc (.cells #[.int .i64 lo,.int .i64 hi] 64))) hbs).step hg)
  have hbs2:base<=w2.heap.size:=Nat.le_trans hbs HG0.out.below.size
  have hx2:Ext w w2∨True:= .inr trivial
  have hwl:w.heap.size<w2.heap.size:=lt_of_heap hfb
  have HFW:Hid (∀W,Grow base 64 w2 W->W.heap[w.heap.size]? =some (.cells #[.int .i64 n,.slice SB n sc,.slice DB (n+1) dc] 89 (0,0))):=Lib.hid (fun W h=>h.heap hfb (by decide))
  have HG2:=Lib.hid HG0.out
  clear hown hg hfb
  cases k with
  |zero=>
   have hb0:decide ((q:Int)+1<(n:Int))=false:=by have :=HQ.out;simp;omega
   obtain ⟨⟨f0,-,-⟩,-,-⟩:=blk3 (HFW.out w2 (Grow.ofx (Ext.refl _) hbs2))
   obtain rfl:rest=[]:=HRS.out
   go_wp2_with fail
   go_loopw [3,11] (fun s3 x wr=>s3= .slice A2 (len+1) c2/\x= .int .i64 lo/\Ext w2 wr) (fun _ _ _=>0)
   case atStart=>exact ⟨rfl,rfl,inferInstance⟩
   case round=>
    obtain ⟨rfl,rfl,hxq⟩:=hrel
    have oW:Old w.heap.size w2:=⟨hwl⟩
    have f1:wr.cell? ⟨w.heap.size,0,none⟩=some (.int .i64 n):=(cellE w2).trans f0
    go_wp2_with fail
    all_goals
     go_ret
     refine ⟨A2,c2,?_,?_,HG0.out.step (Grow.ofx hxq hbs2)⟩
     ·rfl
     ·have h3:=HO2.out.ext hxq
      simpa [ivF] using h3
  |succ k=>
   have hr:=red_ok hL.red
   have hq0:=HQ.out
   have hmj:=HH1.out
   have htq:=HTL.out
   have hkm:k+1<m.length:=by omega
   have htm:t.length=m.length-1-(k+1):=by omega
   obtain ⟨hlo,hhi⟩:=HLO.out
   obtain ⟨J,hJ⟩:∃J,J=tCnt m bound (k+1) t:=⟨_,rfl⟩
   have hJ2:J=(hi-lo+1).toNat:=by rw [hJ,hlo,hhi];rfl
   have hre:rest=tK m bound k t J:=by rw [hJ];exact HRS.out
   have HK1:Hid (∀i,i<J->0<=left (ent m) bound (k+1) ((lo+(i:Int))::t)):=Lib.hid (fun i hi'=>by
    rw [hlo]
    exact kid hr t hkm htm H0.out (j:=i) (by rw [hJ] at hi';exact hi'))
   have HK2:Hid (∀i,i<=J->(tK m bound k t i).length<=rest.length):=Lib.hid (fun i hi'=>by rw [hre];exact tK_le m bound k t hi')
   have HK4:Hid (∀i:Nat,tK m bound k t (i+1)=tK m bound k t i++tE m bound k ((lo+(i:Int))::t)):=Lib.hid (fun i=>by rw [tK_succ,<-hlo])
   have HRE:=Lib.hid hre
   have HTBJ:Hid (∀i,i<J->∀a∈(lo+(i:Int))::t,-9223372036854775808<=a/\a<=9223372036854775807):=Lib.hid (fun i hi' a ha=>by
    rcases List.mem_cons.1 ha with rfl |ha
    ·omega
    ·exact HTB.out a ha)
   have hq1:q+1<n:=by omega
   have hhl:hi-lo+1=(J:Int):=by omega
   have HIH:=Lib.hid (IH.out k (by omega))
   clear hre hr hq0 hmj htq hkm htm hlo hhi hJ hJ2 IH
   go_wp2_with fail
   go_loopw [3,11] (fun s3 x wr=>∃(i:Nat) (A3:Option Addr) (c3:Nat),i<=J/\x= .int .i64 (lo+(i:Int))/\s3= .slice A3 (len+1+(tK m bound k t i).length) c3/\Hid (Own wr base 64 2 A3 (len+1+(tK m bound k t i).length) c3 (xs++[.int .i64 lo,.int .i64 hi]++ivF (tK m bound k t i)))/\Hid (Grow base 64 w2 wr)) (fun _ x _=>(hi-intOf x+1).toNat)
   case atStart=>exact ⟨0,A2,c2,by omega,by simp,rfl,Lib.hid (by have :=HO2.out;simpa [tK,ivF] using this),Lib.hid (Grow.ofx (Ext.refl _) hbs2)⟩
   case round=>
    obtain ⟨i,A3,c3,hi',rfl,rfl,HOI,HGI⟩:=hrel
    have hfr:=HFW.out wr HGI.out
    obtain ⟨⟨f0,f1,f2⟩,-,f3⟩:=blk3 hfr
    have oW:Old w.heap.size wr:=⟨f3⟩
    have hbsr:base<=wr.heap.size:=Nat.le_trans hbs2 HGI.out.below.size
    by_cases hlt:i<J
    ·have hG:=HG0.out.step HGI.out
     have hF:=HFV.out.oth (Oth.of_grow hG) (by decide) (by decide) (by decide) (by decide)
     have hT:=HTV.out.oth (Oth.of_grow hG) (by decide)
     have hk4:=HK4.out i
     have hk2:=HK2.out (i+1) (by omega)
     rw [hk4,List.length_append] at hk2
     have hle:lo+(i:Int)<=hi:=by omega
     have HLG:Hid (∀W,Ext wr W->Calls Tryz.prog 109 #[.int .i64 (lo+(i:Int)),.slice TA q tc] W (fun e w'=>∃A c,e= .returned (.slice A (q+1) c)/\Ints w' A 2 .i64 ((lo+(i:Int))::t)/\Step W w')):=Lib.hid (fun W e=>by
      have :=rlonger_ok (w:=W) (c:=tc) (lo+(i:Int)) hT (by rw [HTL.out];omega)
      rw [HTL.out] at this
      refine this.mono ?_
      rintro e w' ⟨A,c,rfl,a1,-,-,a4⟩
      exact ⟨A,c,by rw [List.length_cons,HTL.out],a1,a4⟩)
     have HCN:Hid (∀(W:World) (A:Option Addr) (c:Nat),Ints W A 2 .i64 ((lo+(i:Int))::t)->Ext wr W->Calls Tryz.prog 65 #[.agg #[.int .i64 n,.slice SB n sc,.slice DB (n+1) dc],.int .i64 bound,.slice A (q+1) c,.slice A3 (len+1+(tK m bound k t i).length) c3] W (RetTr W base (len+1+(tK m bound k t i).length) (xs++[.int .i64 lo,.int .i64 hi]++ivF (tK m bound k t i)) (tE m bound k ((lo+(i:Int))::t)))):=Lib.hid (fun W A c hI e=>
      HIH.out W SB DB A A3 sc dc c c3 (q+1) _ _ _ (by have :=HQ.out;omega) (hF.ext e) hI (by rw [List.length_cons,HTL.out]) (HTBJ.out i hlt) (HK1.out i hlt) (HOI.out.ext e) (Nat.le_trans hbsr e.size) (by omega))
     have HEX:Hid (∀W,Ext wr W->W.cell? ⟨w.heap.size,0,none⟩=some (.int .i64 n)/\W.cell? ⟨w.heap.size,1,none⟩=some (.slice SB n sc)/\W.cell? ⟨w.heap.size,2,none⟩=some (.slice DB (n+1) dc)):=Lib.hid (fun W e=>(blk3 (heap_of_ext e hfr)).1)
     have HEO:Hid (∀W,Grow base 64 wr W->W.cell? ⟨w.heap.size,0,none⟩=some (.int .i64 n)/\W.cell? ⟨w.heap.size,1,none⟩=some (.slice SB n sc)/\W.cell? ⟨w.heap.size,2,none⟩=some (.slice DB (n+1) dc)):=Lib.hid (fun W e=>(blk3 (HFW.out W (HGI.out.step e))).1)
     unfold RetTr at HCN
     have HK4:=Lib.hid hk4
     obtain ⟨t2,ht2⟩:∃t2,t2=(lo+(i:Int))::t:=⟨_,rfl⟩
     rw [<-ht2] at HLG HCN HK4
     clear hF hT hG hk4 hk2 ht2 hfr
     generalize tE m bound k t2=tc2 at*
     go_wp2_with fail
     go_region_held3 (fun w'=>w'.cell? ⟨w.heap.size,0,none⟩=some (.int .i64 n)/\w'.cell? ⟨w.heap.size,1,none⟩=some (.slice SB n sc)/\w'.cell? ⟨w.heap.size,2,none⟩=some (.slice DB (n+1) dc))
      (first |exact HEX.out _ inferInstance |exact HEO.out _ hOx)
      (first
       |(go_at_call 109;refine (HLG.out _ inferInstance).mono ?_;rintro e w5 ⟨A5,c5,rfl,hI5,hs5⟩)
       |(go_at_call 65;refine (HCN.out _ _ _ hI5 inferInstance).mono ?_;rintro e w6 ⟨A6,c6,rfl,hO6,hG6⟩;have hOx:Grow base 64 wr w6:=(Grow.ofx (inferInstance:Ext wr w5) hbsr).step hG6))
     have HO6:=Lib.hid hO6
     have HX6:=Lib.hid hOx
     have hw3:IntKind.i64.wrap (lo+(i:Int)+1)=lo+((i+1:Nat):Int):=by rw [IntKind.wrap_i64];omega
     have hbs6:base<=w6.heap.size:=Nat.le_trans hbsr hOx.below.size
     clear hO6 hG6 hOx
     go_wp2_with fail
     refine ⟨⟨i+1,A6,c6,by omega,by first |rfl |(congr 1;omega),?_,Lib.hid ?_,Lib.hid (HGI.out.step (HX6.out.step (Grow.ofx inferInstance hbs6)))⟩,by simp [intOf]<;>omega⟩
     ·rw [HK4.out,List.length_append,<-Nat.add_assoc]
     ·have h3:=HO6.out.ext (inferInstance:Ext w6 w6)
      rw [HK4.out,List.length_append,<-Nat.add_assoc,ivF_append,<-List.append_assoc]
      exact h3
    ·obtain rfl:i=J:=by omega
     have hend:decide (lo+(i:Int)<=hi)=false:=by simp;omega
     go_wp2_with fail
     go_ret
     refine ⟨A3,c3,?_,?_,HG0.out.step (HGI.out.step (Grow.ofx inferInstance hbsr))⟩
     ·rw [HRE.out]
      show Ending.returned (Value.slice A3 (len+1+(tK m bound k t i).length) c3)=_
      rw [show len+1+(tK m bound k t i).length=len+((tK m bound k t i).length+1) by omega]
     ·rw [HRE.out,show len+((tK m bound k t i).length+1)=len+1+(tK m bound k t i).length by omega]
      have h3:=HOI.out.ext (inferInstance:Ext wr wr)
      simpa [List.append_assoc] using h3
def RetEm (w:World) (m:List (List Int)) (bound budget:Int) (e:Ending) (w':World):Prop:=
 (totS m bound<=budget/\∃A c,e= .returned (.tuple #[.slice A (tTree m bound).length c,.int .i64 0])/\Own w' w.heap.size 64 2 A (tTree m bound).length c (ivF (tTree m bound))/\Step w w')∨(budget<totS m bound/\e= .returned (.tuple #[.slice none 0 0,.int .i64 9])/\Step w w')
set_option maxRecDepth 20000 in
theorem rEmit_ok {w0 w:World} {A:Option Addr} {c n:Nat} {m:List (List Int)} {bound budget:Int} (hM:Mat64 w0 A m) (hL:LLLed m) (h1:m.length=n) (hb:0<=bound) (hb1:bound<1073741824) (hu0:0<=budget) (hu1:budget<=1000000) [hx:Ext w0 w]:
  Calls Tryz.prog 41 #[.slice A n c,.int .i64 bound,.int .i64 budget] w (RetEm w m bound budget):=by
 have hr:=red_ok hL.red
 have hn8:=hL.len8
 have hn1:=hL.len1
 have HST:Hid (∀W,Ext w0 W->Calls Tryz.prog 35 #[.slice A n c,.int .i64 bound,.int .i64 budget] W (RetSt W m n bound budget)):=Lib.hid (fun W e=>rSteps_ok hM hL h1 hb hb1 hu0 hu1)
 have HOF:Hid (∀W,Ext w0 W->Calls Tryz.prog 62 #[.slice A n c] W (RetFr W m n)):=Lib.hid (fun W e=>rFrame_ok hM hL h1)
 have htop:=top_nonneg hr hb
 have htl:=tE_len hr hb hb1 (m.length-1) [] (by omega) (by simp) htop
 have hts:=totS_ys hr hb
 have hlen:((tTree m bound).length:Int)<=1+totS m bound:=by rw [hts];exact htl
 have HTR:Hid (∀(W:World) (SB DB:Option Addr) (sc dc:Nat),totS m bound<=budget->FrV W m SB DB->Calls Tryz.prog 65 #[.agg #[.int .i64 n,.slice SB n sc,.slice DB (n+1) dc],.int .i64 bound,.slice none 0 0,.slice none 0 0] W (fun e w'=>∃A c,e= .returned (.slice A (tTree m bound).length c)/\Own w' W.heap.size 64 2 A (tTree m bound).length c (ivF (tTree m bound))/\Ext W w')):=Lib.hid (fun W SB DB sc dc htot hF=>by
  have ht:tTree m bound=tE m bound (n-1) []:=by unfold tTree;rw [h1]
  have :=rtree_ok (base:=W.heap.size) hL h1 hb hb1 (n-1) W SB DB none none sc dc 0 0 0 0 [] [] (by omega) hF Ints.nil rfl (fun a ha=>by simp at ha) (by rw [h1] at htop;exact htop) (Own.nil _ _ _ _) (Nat.le_refl _) (by rw [<-ht];omega)
  refine this.mono ?_
  rintro e w' ⟨A,c,rfl,hO,hG⟩
  rw [<-ht,Nat.zero_add] at hO |-
  exact ⟨A,c,rfl,by simpa using hO,hG.ext (Ext.refl _) (Nat.le_refl _)⟩)
 unfold RetSt at HST
 unfold RetEm
 generalize totS m bound=tot at*
 generalize stS m bound=st at*
 generalize tTree m bound=T at*
 clear hM hL h1 hr htop htl hts
 go_enter Tryz.func41,Tryz.ntmps41
 go_wp2_with (go_at_call 35;refine (HST.out _ inferInstance).mono ?_;rintro e w1 (⟨htot,g,rfl,-,-,hs1⟩ |⟨htot,rfl,hs1⟩))
 ·refine (HOF.out _ inferInstance).mono ?_
  rintro e w2 ⟨SB,sc,DB,dc,rfl,hF,-,-,-,-,hs2⟩
  go_wp2_with (go_at_call 65;refine (HTR.out _ _ _ _ _ htot hF).mono ?_;rintro e w3 ⟨A3,c3,rfl,hO3,hx3⟩)
  have hxw:Ext w w2:=inferInstance
  have hx4:Ext w w3:=hxw.trans hx3
  go_ret2
  exact .inl ⟨htot,A3,c3,rfl,hO3.lower hxw.size,hx4.toStep⟩
 ·go_ret2
  exact .inr ⟨htot,rfl,hs1⟩
theorem Emit_few {w0 w:World} {A:Option Addr} {c b:Nat} {m:List (List Int)} {budget:Int} (h:Mat64 w0 A m) (hc:m.length<=c) (hc2:c<=9223372036854775807) (hr:isRedB m=true) (hb:(b:Int)<1073741824) (h0:0<=budget) (hbd:budget<totS m b) (hbd2:budget<=1000000) [hx:Ext w0 w]:
  Calls Tryz.prog 45 #[.slice A m.length c,.int .i64 b,.int .i64 budget] w (RetVal w (.tuple #[.slice none 0 0,.int .i64 9])):=by
 have hR:=red_ok hr
 have hl:=isSmallB_len hR.small
 have hspec:=(steps_ok hr (b:=b) hb).1.spec budget h0 hbd2
 rw [if_neg (by omega)] at hspec
 have hSt:=fun W (hh:Ext w0 W)=>Steps_any (w:=W) (bound:=(b:Int)) (budget:=budget) h (by omega) hc hc2 (fun _=>hR.form)
 rw [hspec] at hSt
 have HST:=Lib.hid hSt
 clear hSt hspec hR
 go_enter Tryz.func45,Tryz.ntmps45
 go_wp2_with (go_at_call 49;refine (HST.out _ inferInstance).mono ?_;rintro e w1 ⟨A1,c1,rfl,hI,k1,k2,hs1⟩)
 go_ret2
 exact ⟨rfl,hs1⟩
theorem Size_few {w0 w:World} {A:Option Addr} {c b:Nat} {m:List (List Int)} {budget:Int} (h:Mat64 w0 A m) (hc:m.length<=c) (hc2:c<=9223372036854775807) (hr:isRedB m=true) (hb:(b:Int)<1073741824) (h0:0<=budget) (hbd:budget<totS m b) (hbd2:budget<=1000000) [hx:Ext w0 w]:
  Calls Tryz.prog 47 #[.slice A m.length c,.int .i64 b,.int .i64 budget] w (RetVal w (.tuple #[.int .i64 0,.int .i64 9])):=by
 have hR:=red_ok hr
 have hl:=isSmallB_len hR.small
 have hspec:=(steps_ok hr (b:=b) hb).1.spec budget h0 hbd2
 rw [if_neg (by omega)] at hspec
 have hSt:=fun W (hh:Ext w0 W)=>Steps_any (w:=W) (bound:=(b:Int)) (budget:=budget) h (by omega) hc hc2 (fun _=>hR.form)
 rw [hspec] at hSt
 have HST:=Lib.hid hSt
 clear hSt hspec hR
 go_enter Tryz.func47,Tryz.ntmps47
 go_wp2_with (go_at_call 49;refine (HST.out _ inferInstance).mono ?_;rintro e w1 ⟨A1,c1,rfl,hI,k1,k2,hs1⟩)
 go_ret2
 exact ⟨rfl,hs1⟩
set_option maxRecDepth 20000 in
theorem Size_red {w0 w:World} {A:Option Addr} {c b:Nat} {m:List (List Int)} {budget:Int} (h:Mat64 w0 A m) (hc:m.length<=c) (hc2:c<=9223372036854775807) (hr:isRedB m=true) (hb:(b:Int)<1073741824) (hbd:totS m b<=budget) (hbd2:budget<=1000000) [hx:Ext w0 w]:
  Calls Tryz.prog 47 #[.slice A m.length c,.int .i64 b,.int .i64 budget] w (RetVal w (.tuple #[.int .i64 ((tTree m b).length:Int),.int .i64 0])):=by
 have hR:=red_ok hr
 have hl:=isSmallB_len hR.small
 have hst:=(steps_ok hr (b:=b) hb).1
 have h0:=totS_ge hr hb
 have hspec:=hst.spec budget (by omega) hbd2
 rw [if_pos hbd] at hspec
 have hSt:=fun W (hh:Ext w0 W)=>Steps_any (w:=W) (bound:=(b:Int)) (budget:=budget) h (by omega) hc hc2 (fun _=>hR.form)
 rw [hspec] at hSt
 obtain ⟨q1,-⟩:=tTree_cnt hR (b:=(b:Int)) (by omega) hb
 rw [q1]
 have HST:=Lib.hid hSt
 have HSL:=Lib.hid hst.len
 have HSB:Hid (∀k,0<=((stS m b).take k).sum/\((stS m b).take k).sum<=(stS m b).sum):=Lib.hid (fun k=>take_sum_bd (fun x hx=>by have :=hst.one x hx;omega) k)
 have hsum:=hst.sum
 have h6:(stS m b).sum<=1000000:=by omega
 clear hSt hspec hst hR q1 hsum h0
 generalize stS m b=st at*
 obtain ⟨n,hn⟩:∃n,n=m.length:=⟨_,rfl⟩
 rw [<-hn] at HST HSL hc hl |-
 clear hn
 have hw1:IntKind.i64.wrap ((n:Int)-1)=((n-1:Nat):Int):=by rw [show (n:Int)-1=((n-1:Nat):Int) by omega];exact IntWalk.i64_in _ (by omega)
 go_enter Tryz.func47,Tryz.ntmps47
 go_wp2_with (go_at_call 49;refine (HST.out _ inferInstance).mono ?_;rintro e w1 ⟨A1,c1,rfl,hI,k1,k2,hs1⟩;have HI:=Lib.hid hI;rw [HSL.out] at k1 |-;clear hI)
 go_loopw [10,29] (fun s10 i wr=>∃k:Nat,k<=n-1/\i= .int .i64 k/\s10= .int .i64 (1+(st.take k).sum)/\Ext w1 wr) (fun _ i _=>n-(intOf i).toNat)
 case atStart=>exact ⟨0,by omega,rfl,by simp,inferInstance⟩
 case round=>
  obtain ⟨k,hk,rfl,rfl,hxr⟩:=hrel
  by_cases hlt:k<n-1
  ·obtain ⟨bq,oq,y,rfl,hy,hcy,hbq⟩:=(HI.out.ext hxr).at_ (i:=k) (by rw [HSL.out];omega)
   have hts:=sum_take_succ st k y hy
   have hb3:=HSB.out (k+1)
   have hb4:=HSB.out k
   rw [hts] at hb3
   have hw2:IntKind.i64.wrap (1+(st.take k).sum+y)=1+(st.take k).sum+y:=by rw [IntKind.wrap_i64];omega
   have HT:=Lib.hid hts
   clear hts hy
   go_wp2_with fail
   exact ⟨⟨k+1,by omega,by go_num,by rw [HT.out,Int.add_assoc],inferInstance⟩,by simp [intOf]<;>omega⟩
  ·obtain rfl:k=n-1:=by omega
   have hxw:Ext w wr:=(inferInstance:Ext w w1).trans hxr
   clear hlt hk
   go_wp2_with fail
   go_ret2
   exact ⟨rfl,hxw.toStep⟩
def RoundE (m:List (List Int)) (n b:Nat) (A:Option Addr) (c:Nat) (w:World) (k:Int):Prop:=
 ∃(T:List (Int×Int)) (er:Int),T.length<=1000001/\∀W,Ext w W->
  Calls Tryz.prog 45 #[.slice A n c,.int .i64 b,.int .i64 k] W (fun e w'=>∃B d,e= .returned (.tuple #[.slice B T.length d,.int .i64 er])/\IvV w' B T/\Step W w')/\
  Calls Tryz.prog 41 #[.slice A n c,.int .i64 b,.int .i64 k] W (fun e w'=>∃B d,e= .returned (.tuple #[.slice B T.length d,.int .i64 er])/\IvV w' B T/\Step W w')/\
  Calls Tryz.prog 47 #[.slice A n c,.int .i64 b,.int .i64 k] W (RetVal W (.tuple #[.int .i64 (T.length:Int),.int .i64 er]))
theorem ivV_nil (w:World) (A:Option Addr):IvV w A []:=⟨⟨64,Arr.nil⟩,fun p hp=>by simp at hp⟩
theorem roundE {m:List (List Int)} {n b:Nat} {A:Option Addr} {c:Nat} {w:World} {k:Int} (hM:Mat64 w A m) (hL:LLLed m) (h1:m.length=n) (hc:n<=c) (hc2:c<=9223372036854775807) (hb:(b:Int)<1073741824) (h0:0<=k) (hk:k<=1000000):RoundE m n b A c w k:=by
 have hred:=hL.red
 have hR:=red_ok hred
 have hbd:=tTree_bd hR (b:=(b:Int)) (by omega) hb
 have hlen:((tTree m b).length:Int)<=1+totS m b:=by
  rw [totS_ys hR (by omega)]
  exact tE_len hR (by omega) hb (m.length-1) [] (by have :=hL.len1;omega) (by simp) (top_nonneg hR (by omega))
 by_cases ht:totS m b<=k
 ·refine ⟨tTree m b,0,by omega,fun W e=>⟨?_,?_,?_⟩⟩
  ·have :=Emit_red (w:=W) (c:=c) (b:=b) (budget:=k) hM (by omega) hc2 hred hb ht hk
   rw [h1] at this
   refine this.mono ?_
   rintro e' w' ⟨B,d,rfl,hI,-,-,hs⟩
   exact ⟨B,d,rfl,hI.toV,hs⟩
  ·refine (rEmit_ok hM hL h1 (by omega) hb h0 hk).mono ?_
   rintro e' w' (⟨-,B,d,rfl,hO,hs⟩ |⟨hbad,-⟩)
   ·exact ⟨B,d,rfl,⟨⟨64,hO.arr⟩,fun p hp=>by have :=hbd p hp;omega⟩,hs⟩
   ·exact absurd hbad (by omega)
  ·have :=Size_red (w:=W) (c:=c) (b:=b) (budget:=k) hM (by omega) hc2 hred hb ht hk
   rwa [h1] at this
 ·refine ⟨[],9,by simp,fun W e=>⟨?_,?_,?_⟩⟩
  ·have :=Emit_few (w:=W) (c:=c) (b:=b) (budget:=k) hM (by omega) hc2 hred hb h0 (by omega) hk
   rw [h1] at this
   refine this.mono ?_
   rintro e' w' ⟨rfl,hs⟩
   exact ⟨none,0,rfl,ivV_nil _ _,hs⟩
  ·refine (rEmit_ok hM hL h1 (by omega) hb h0 hk).mono ?_
   rintro e' w' (⟨hbad,-⟩ |⟨-,rfl,hs⟩)
   ·exact absurd hbad ht
   ·exact ⟨none,0,rfl,ivV_nil _ _,hs⟩
  ·have :=Size_few (w:=W) (c:=c) (b:=b) (budget:=k) hM (by omega) hc2 hred hb h0 (by omega) hk
   rwa [h1] at this
set_option maxRecDepth 20000 in
theorem TreeEmits_any {w:World} {dim kind bound budget:Int} {NA:Option Addr} {l:List Int} {nc:Nat} {v3:Value} {te:TypeId} (hN:Ints w NA te .i8 l) (h8:I8 l) (hl:l.length<=9223372036854775807) (hd0:0<=dim) (hd1:dim<256) (hk0:0<=kind) (hk1:kind<256) (hb0:0<=bound) (hb1:bound<256) (hu0:0<=budget) (hu1:budget<65536):
  Calls Tryz.prog 19 #[.agg #[.int .u8 dim,.int .u8 kind,.slice NA l.length nc,v3],.int .u8 bound,.int .u16 budget] w (RetVal w (.bool true)):=by
 have HG:Hid (∀W,Ext w W->Calls Tryz.prog 40 #[.agg #[.int .u8 dim,.int .u8 kind,.slice NA l.length nc,v3],.int .u8 bound] W (RetSmall W (1+(dim%4).toNat) bound)):=Lib.hid (fun W e=>rsmall12_ok (hN.ext e) h8 hl hd0 hd1 hk0 hk1 hb0 hb1)
 have hn1:1<=1+(dim%4).toNat:=by omega
 have hn4:1+(dim%4).toNat<=4:=by omega
 clear hN h8
 generalize 1+(dim%4).toNat=n at*
 have e6:=Int.emod_nonneg bound (show 13-2*(n:Int)≠0 by omega)
 have e7:=Int.emod_lt_of_pos bound (show 0<13-2*(n:Int) by omega)
 unfold RetSmall at HG
 obtain ⟨b,hb⟩:∃b:Nat,bound%(13-2*(n:Int))=b:=⟨(bound%(13-2*(n:Int))).toNat,by omega⟩
 rw [hb] at HG e6 e7
 have hwb:IntKind.i64.wrap budget=budget:=by rw [IntKind.wrap_i64];omega
 clear hb
 go_enter Tryz.func19,Tryz.ntmps19
 go_upto_region 2 with (go_at_call 40;refine (HG.out _ inferInstance).mono ?_;rintro e w1 ⟨g,m,A1,c1,rfl,-,hLL,hlen,-,hM1,hc1,hc2,hs1⟩;have HM:=Lib.hid hM1;have HR:=Lib.hid hLL;clear hM1 hLL)
 have HRO:Hid (∀k:Int,0<=k->k<=1000000->RoundE m n b A1 c1 w1 k):=Lib.hid (fun k h0 h1=>roundE HM.out HR.out hlen hc1 hc2 (by omega) h0 h1)
 have hxw1:Ext w w1:=inferInstance
 clear HG HM HR
 go_wp2_with fail
 obtain ⟨wa,hwa⟩:∃wa,wa=w1.alloc (.cells #[.int .i64 budget,.int .i64 20000] 3):=⟨_,rfl⟩
 have hxa:Ext w1 wa:=by rw [hwa];exact inferInstance
 have HCE:Hid (∀k:Nat,k<2->∃y:Int,wa.cell? ⟨w1.heap.size,k,none⟩=some (.int .i64 y)/\0<=y/\y<=1000000):=Lib.hid (fun k hk=>by
  have hb:wa.heap[w1.heap.size]? =some (.cells #[.int .i64 budget,.int .i64 20000] 3 (0,0)):=by rw [hwa];exact heap_alloc_new w1 _
  obtain ⟨p1,p2,-⟩:=box_cells2 hb
  rcases (by omega:k=0∨k=1) with rfl |rfl
  ·exact ⟨budget,p1,by omega,by omega⟩
  ·exact ⟨20000,p2,by omega,by omega⟩)
 have hla:w1.heap.size<wa.heap.size:=by rw [hwa];simp
 have hxwa:Ext w wa:=hxw1.trans hxa
 rw [<-hwa]
 clear hwa hwb
 go_loopw [27] (fun i wr=>∃k:Nat,k<=2/\i= .int .i64 k/\Ext wa wr) (fun i _=>2-(intOf i).toNat)
 case atStart=>exact ⟨0,by omega,rfl,inferInstance⟩
 case round=>
  obtain ⟨k,hk,rfl,hxr⟩:=hrel
  have hxwr:Ext w wr:=hxwa.trans hxr
  by_cases hlt:k<2
  ·obtain ⟨y,hcy,y0,y1⟩:=HCE.out k hlt
   obtain ⟨T,er,hT,hround⟩:=HRO.out y y0 y1
   have oB:Old w1.heap.size wa:=⟨hla⟩
   have hcy2:wr.cell? ⟨w1.heap.size,k,none⟩=some (.int .i64 y):=(cellE wa).trans hcy
   have hx1r:Ext w1 wr:=hxa.trans hxr
   have HE1:=Lib.hid (fun W (e:Ext wr W)=>(hround W (hx1r.trans e)).1)
   have HE2:=Lib.hid (fun W (e:Ext wr W)=>(hround W (hx1r.trans e)).2.1)
   have HE3:=Lib.hid (fun W (e:Ext wr W)=>(hround W (hx1r.trans e)).2.2)
   have hee:(er !=er)=false:=by simp
   have htt:((T.length:Int) !=(T.length:Int))=false:=by simp
   have HSI:Hid (∀(W1 W2 W:World) B C c d,IvV W1 B T->IvV W2 C T->Ext W1 W->Ext W2 W->Calls Tryz.prog 46 #[.slice B T.length c,.slice C T.length d] W (RetQ W (.bool true))):=Lib.hid (fun W1 W2 W B C c d i1 i2 e1 e2=>by
    have :=SameIntervals_any (w0:=W) (w:=W) (c:=c) (d:=d) (i1.ext e1) (i2.ext e2) (by omega)
    rwa [decide_eq_true rfl] at this)
   clear hround hcy
   generalize T.length=tl at*
   go_wp2_with (first
    |(go_at_call 45;refine (HE1.out _ inferInstance).mono ?_;rintro e w2 ⟨B2,d2,rfl,hI2,hs2⟩;have HI2:=Lib.hid hI2;clear hI2)
    |(go_at_call 41;refine (HE2.out _ inferInstance).mono ?_;rintro e w3 ⟨B3,d3,rfl,hI3,hs3⟩;have HI3:=Lib.hid hI3;clear hI3)
    |(go_at_call 47;refine (HE3.out _ inferInstance).mono ?_;rintro e w4 ⟨rfl,hs4⟩)
    |(go_at_call 46;refine (HSI.out _ _ _ _ _ _ _ HI2.out HI3.out inferInstance inferInstance).mono ?_;rintro e w5 ⟨rfl,nq,rfl⟩))
   exact ⟨⟨k+1,by omega,by go_num,inferInstance⟩,by simp [intOf]<;>omega⟩
  ·obtain rfl:k=2:=by omega
   clear HRO HCE
   go_wp2_with (go_at_call 43;refine awake12_any.mono ?_;rintro e w6 ⟨rfl,hs6⟩)
   go_ret
   exact ⟨rfl,Step.of _ _⟩
end Go.Proofs.YtjehjkipcaohpaaGreat
