/- Whoever walks down with the secret signs what whoever walks down without it verifies, and the text of either walks the same way (StrongboxKeyed). No condition. -/
import Derived.Test.YtnlkdheaohocnaaGreatDoorU1
import Derived.Deep.DeepCutAuto
import Derived.Test.YtnlkdheaohocnaaGreatDoorU26
import Derived.Test.YtnlkdheaohocnaaGreatDoorU4
import Derived.Test.YtnlkdheaohocnaaGreatDoorU7
set_option maxRecDepth 1000000
set_option maxHeartbeats 16000000
set_option linter.unusedVariables false
set_option linter.unusedSimpArgs false
namespace Go.Proofs.YtnlkdheaohocnaaGreatDoor
open Go Go.RowKit Go.Shelf
def kz:Array Value:=#[.int .u8 0,.int .u8 0,.int .u8 0,.int .u8 0,.int .u8 0,.int .u32 0,.int .u8 0,.int .u8 0,.int .u8 0,.int .u8 0,.int .u8 0,.int .u8 0,.int .u8 0,.int .u8 0,.int .u8 0,.int .u8 0,.int .u8 0,.int .u8 0,.int .u8 0,.int .u8 0,.int .u8 0,.int .u8 0,.int .u8 0,.int .u8 0,.int .u8 0,.int .u8 0,.int .u8 0,.int .u8 0,.int .u8 0,.int .u8 0,.int .u8 0,.int .u8 0,.int .u8 0,.int .u8 0,.int .u8 0,.int .u8 0,.int .u8 0,.int .u8 0,.int .u8 0,.int .u8 0,.int .u8 0,.int .u8 0,.int .u8 0,.int .u8 0,.int .u8 0,.int .u8 0,.int .u8 0,.int .u8 0,.int .u8 0,.int .u8 0,.int .u8 0,.int .u8 0,.int .u8 0,.int .u8 0,.int .u8 0,.int .u8 0,.int .u8 0,.int .u8 0,.int .u8 0,.int .u8 0,.int .u8 0,.int .u8 0,.int .u8 0,.int .u8 0,.int .u8 0,.int .u8 0,.int .u8 0,.int .u8 0,.int .u8 0,.int .u8 0,.int .u8 0]
theorem Ge:kz=(aW aP).toArray:=by kernel_rfl
theorem EA:kz.all (·.oneCell')=true:=by rw[Ge];exact bf _
theorem eq4 (f:List UInt8) (h:f.length=4) (w:World):(Op.equalIn 10000 26 (.agg (B8 f).toArray) (.agg #[.int .u8 0,.int .u8 0,.int .u8 0,.int .u8 0])).run Tryz.prog w=.ok (decide (f=[0,0,0,0])) w:=by
 match f,h with
 |[a,b,c,d],_=>
  have hz:∀x:UInt8,(x.toNat=0)↔x=0:=fun x=>by
   constructor
   · intro e
     exact UInt8.toNat_inj.1 (by rw[e];rfl)
   rintro rfl;rfl
  simp only[B8,List.map];have u3:=Tryz.underlying5;have a3:=Tryz.isAgg5;have z3:=Tryz.sizeOf5;rw[show (10000:Nat)=9999+1 from rfl,Op.equalIn];simp only[Sem.run_bind,run_underlying Tryz.underlying26,Result.andThen_ok];simp only[Std.Legacy.Range.forIn_eq_forIn_range',Std.Legacy.Range.size,Nat.sub_zero,Nat.add_sub_cancel,Nat.div_one,List.range'_succ,List.range'_zero,List.forIn_cons,List.forIn_nil];go_simp;simp only[List.cons.injEq,and_true,←hz]
  by_cases h1:a.toNat=0<;>by_cases h2:b.toNat=0<;>by_cases h3:c.toNat=0<;>by_cases h4:d.toNat=0<;>simp[h1,h2,h3,h4]
theorem kJ {w:World} {b o:Nat} {D:List UInt8} (aS:∀j (h:j<D.length),w.cell? ⟨b,o+j,none⟩=some (.int .u8 (D[j].toNat:Int))) (k m:Nat) (xs:List UInt8) (hx:xs=(D.drop k).take m):w.rangeAt b (o+k) (B8 xs):=fun j v hv=>by
 have hj:j<(B8 xs).length:=(adE.1 hv).1;have hjx:j<xs.length:=by simpa using hj
 rw[adp hj,ed] at hv;have NJ:k+j<D.length:=by rw[hx,adq,adH] at hjx;omega
 have e:xs[j]=D[k+j]:=by
  subst hx;simp
 rw[Nat.add_assoc,aS (k+j) NJ,←e];exact hv
theorem MG (b:List UInt8) (h:4≤b.length):∃p q r s t,b=p::q::r::s::t:=by
 match b,h with
 |p::q::r::s::t,_=>exact⟨p,q,r,s,t,rfl⟩
theorem EB (s:ByteArray) (eD:s.size≤4096) (w:World):
 Calls Tryz.prog 8 #[.string s] w fun e W'=>e=.returned (.tuple #[.agg (aW (uV s.data.toList).2).toArray,.int .i64 ((uV s.data.toList).1:Int)])∧Below w.heap.size w W':=by
 have bx:Tryz.prog.follows .mixedOrders=true:=by kernel_rfl
 obtain⟨R,hR⟩:=ae (uV s.data.toList);rw[←hR];obtain⟨E,hE⟩:∃E,E=(lp s.data.toList).1:=⟨_,rfl⟩;obtain⟨D,hD⟩:∃D,D=(lp s.data.toList).2:=⟨_,rfl⟩;have HR:Hid (R=if E=0 then uU D else (E,aP)):=ab (by rw[hR,hE,hD];rfl);have Hfc:=fun ww=>yX s ww eD
 rw[←hE,←hD] at Hfc;have HFC:=ab Hfc;obtain⟨n,hn⟩:=ae D.length;rw[←hn] at HFC;have Hn:=ab hn;clear hR hE hD Hfc hn eD;go_enter Tryz.func8,Tryz.ntmps8;have bG:=adk w (.cells kz 30);obtain⟨W0,bD⟩:=ae (w.alloc (.cells kz 30));rw[←bD] at bG;have de:Below w.heap.size w W0:=by rw[bD];exact(adl _ w).alloc (adi _) _
 have jh:W0.heap.size=w.heap.size+1:=by rw[bD];simp
 go_wp2_with fail;refine(show W0=_ from bD)▸?_;obtain⟨B,hB⟩:=ae w.heap.size;rw[←hB] at bG jh⊢;clear bD;have HB:=ab hB;have ju:=ab bG;have kO:=ab (adg.1 bG).1;clear hB jh bG;refine(HFC.out W0).mono ?_;rintro e w1 ⟨A,c,rfl,hs,⟨RA,Kb⟩,bH⟩;have so:=(bH.block B kO.out).trans ju.out;have fA:=de.trans (bH.mono de.size);have lE:B<w1.heap.size:=ads kO.out bH.size;have qq:=ab so;have Hs:=ab hs;have yx:Hid (w.heap.size≤B):=ab (by rw[HB.out];exact adi _);clear HFC ju so hs bH de
 by_cases qA:E=0
 · subst qA
   by_cases h78:n=78
   · subst h78
     have yV:D.length=78:=Hn.out.symm;obtain⟨b0,o0,rfl,acO,aS⟩:=Hs.out.at_ (k:=0) (by omega);have abw:78≤c:=RA;have acP:¬c=45:=by omega
     have wz:=Pr D yV;obtain⟨k,hk⟩:=ae (uT D);have HRk:Hid (R=if decide (bB (D.take 4)=jd k.priv)&&k.good&&rU k then (0,k) else (3,aP)):=ab (by rw[HR.out,if_pos rfl,uU,if_pos yV,hk]);rw[←hk] at wz;obtain⟨p0,p1,p2,p3,pt,hp⟩:=MG D (by omega);obtain⟨q0,q1,q2,q3,qt,hq⟩:=MG (D.drop 9) (by simp[yV]);obtain⟨hd,J9⟩:=ae (bB (D.take 4));rw[←J9] at HRk
     have c4:w1.cell? ⟨b0,o0+4,none⟩=some (.int .u8 (k.depth.toNat:Int)):=by
      rw[aS 4 (by omega),hk];simp[uT,yV]
     have R5:=ab (kJ aS 5 4 k.finger (by rw[hk];rfl));have R13:=ab (kJ aS 13 32 k.chain (by rw[hk];rfl));have R45:=ab (kJ aS 45 33 k.data (by rw[hk];show D.drop 45=_;exact(ady (by rw[adH,yV];exact adi _)).symm))
     have Zq:Sl w1 w1.heap.size (some ⟨b0,o0+9,none⟩) (B8 (q0::q1::q2::q3::qt)):=by
      have h1:=Hs.out.cut (k:=9) (m:=69) (cap:=c) (by rw[B8_length,yV];omega) (by rw[B8_length,yV];exact abw);rw[if_neg (by omega),ady (by rw[adH,B8_length,yV];exact adi _),←kU,hq] at h1;exact h1
     have VJ:qt.length+4=69:=by
      have:=congrArg List.length hq;rw[adH,yV] at this;simp at this;omega
     have KL:k.child=bB [q0,q1,q2,q3]:=by rw[hk];show bB ((D.drop 9).take 4)=_;rw[hq];rfl
     have IZ:hd=bB [p0,p1,p2,p3]:=by rw[J9,hp];rfl
     have T3:=Hs.out;rw[hp] at T3;have pe:pt.length+4=78:=by rw[hp] at yV;simpa using yV
     have HN4:Hid (∀X,Below w1.heap.size w1 X→Calls Tryz.prog 21 #[.slice (some ⟨b0,o0+9,none⟩) 69 (c-9)] X fun e W'=>e=.returned (.int .u32 (k.child:Nat))∧Below X.heap.size X W'):=
      ab fun X hX=>by rw[KL];exact sw _ 69 (c-9) q0 q1 q2 q3 qt X ((Zq.below hX).mono hX.size) VJ.symm
     have HNh:Hid (∀X,Below w1.heap.size w1 X→Calls Tryz.prog 21 #[.slice (some ⟨b0,o0,none⟩) 78 c] X fun e W'=>e=.returned (.int .u32 (hd:Nat))∧Below X.heap.size X W'):=
      ab fun X hX=>by rw[IZ];exact sw _ 78 c p0 p1 p2 p3 pt X ((T3.below hX).mono hX.size) pe.symm
     obtain⟨cs,eA⟩:∃cs,cs=(aW k).toArray:=⟨_,rfl⟩;have lZ:cs.size=71:=by rw[eA];simp[bO wz]
     have HBu:Hid (Tryz.prog.built 30 [(0,.int .u8 (k.depth.toNat:Int)),(1,.agg (B8 k.finger).toArray),(2,.int .u32 (k.child:Int)),(3,.agg (B8 k.chain).toArray),(4,.agg (B8 k.data).toArray)]=some cs):=ab (by rw[eA];exact IF k wz);have J5:Hid ((Tryz.prog.info? 30).map (·.size)=some cs.size):=ab (by rw[lZ];kernel_rfl);have KN:Hid (kz.size=cs.size):=ab (by rw[lZ];rfl);have Tp:Hid (cs.all (·.oneCell')=true):=ab (by rw[eA];exact bf k);have I4:=ab (show (Tryz.prog.info? 26).map (·.size)=some (B8 k.finger).length by rw[B8_length,wz.finger];kernel_rfl);have I32:=ab (show (Tryz.prog.info? 24).map (·.size)=some (B8 k.chain).length by rw[B8_length,wz.chain];kernel_rfl);have I33:=ab (show (Tryz.prog.info? 28).map (·.size)=some (B8 k.data).length by rw[B8_length,wz.data];kernel_rfl);have m5:=ab wz;have DF:=ab eA;have yR:Hid (∀ww,Calls Tryz.prog 22 #[.agg cs] ww fun e W'=>e=.returned (.bool k.priv)∧Below ww.heap.size ww W'):=ab fun ww=>by rw[eA];exact iA k wz ww
     have HGd:Hid (∀ww,Calls Tryz.prog 16 #[.agg cs] ww fun e W'=>e=.returned (.bool k.good)∧Below ww.heap.size ww W'):=ab fun ww=>by rw[eA];exact nH k wz ww
     clear aS hk hp hq J9 IZ KL Zq T3 VJ pe eA lZ yV wz HR Hs;go_wp2_with fail;have yL:Below w1.heap.size w1 w1.drew:=(adl _ _).drew;apply LR (fun gN wE=>w1.heap.size≤gN∧wE.heap[gN]?=some (.cells cs 30 (0,0))∧Below w1.heap.size w1 wE)
     · intro hT
       refine eo _ 21 _ bx (by kernel_rfl) (by intro c a d v w h;cases d<;>exact h) (ek (aJ _ (by intro c a d v w h;cases d<;>exact h)) (by kernel_rfl) 4 [(0,0),(1,0),(2,1),(3,0),(4,0),(5,0),(6,1),(7,0),(8,0),(9,0),(11,0),(12,0),(13,0),(14,1),(15,0),(16,0),(17,0),(18,1)] _ (by kernel_rfl) (ei (aJ _ (by intro c a d v w h;cases d<;>exact h)) 10 20 3 _ (by kernel_rfl) (cq (aJ _ (by intro c a d v w h;cases d<;>exact h)) (by kernel_rfl) [(19,0),(20,2),(21,2)] _ (by kernel_rfl)) (cq (aJ _ (by intro c a d v w h;cases d<;>exact h)) (by kernel_rfl) [(10,2),(19,0),(21,2)] _ (by kernel_rfl)))) ?_
       repeat ((first|(refine ao rfl (fun K hK=>?_))|(refine aD rfl (fun K hK=>?_)));go_simp;(first|(refine hK _ ?_)|(simp only[IntWalk.iteOmega];go_simp;refine hK _ ?_) );clear hK K;(try go_bits))
       refine jN rfl rfl 26 (.tmp 28) rfl (some ⟨b0,o0+5,none⟩) 4 (c-5) 4 _ rfl Tryz.underlying26 (adi _) ?_;refine hJ rfl rfl 26 (.tmp 29) rfl b0 (o0+5) rfl (B8 k.finger) _ R5.out Tryz.underlying26 rfl I4.out ?_
       repeat ((first|(refine ao rfl (fun K hK=>?_)) );go_simp;(first|(refine hK _ ?_)|(simp only[IntWalk.iteOmega];go_simp;refine hK _ ?_) );clear hK K;(try go_bits))
       refine jN rfl rfl 24 (.tmp 36) rfl (some ⟨b0,o0+13,none⟩) 32 (c-13) 32 _ rfl Tryz.underlying24 (adi _) ?_;refine hJ rfl rfl 24 (.tmp 37) rfl b0 (o0+13) rfl (B8 k.chain) _ R13.out Tryz.underlying24 rfl I32.out ?_
       repeat ((first|(refine ao rfl (fun K hK=>?_)) );go_simp;(first|(refine hK _ ?_) );clear hK K;(try go_bits))
       refine jN rfl rfl 28 (.tmp 40) rfl (some ⟨b0,o0+45,none⟩) 33 (c-45) 33 _ rfl Tryz.underlying28 (adi _) ?_;refine hJ rfl rfl 28 (.tmp 41) rfl b0 (o0+45) rfl (B8 k.data) _ R45.out Tryz.underlying28 rfl I33.out ?_
       repeat ((first|refine ao rfl fun K hK=>?_|refine aD rfl fun K hK=>?_);go_simp;(first|refine hK _ ?_|(simp only[IntWalk.iteOmega];go_simp;refine hK _ ?_)|(go_bits;go_simp;refine hK _ ?_));clear hK K;try go_bits)
       refine ep rfl rfl rfl rfl (fun K hK=>?_) (fun K hK=>?_)
       · go_wp2_with fail
         refine(HN4.out _ yL).mono ?_;rintro e w2 ⟨rfl,mI⟩;have fZ:Below w1.heap.size w1 w2:=yL.trans (mI.mono yL.size);go_wp2_with fail;refine⟨(av mI),?_⟩;refine oY rfl rfl 30 #[(0,.tmp 26),(1,.tmp 30),(2,.tmp 34),(3,.tmp 38),(4,.tmp 42)] rfl cs HBu.out ?_
         refine ah rfl rfl (fun K hK=>?_);go_wp2_with fail;refine⟨.inr (bq _ _),?_⟩;refine(show aI _ _ _ _ _ _ _ (w2.alloc (.cells kz 30)) from ?_);obtain⟨wN,eg⟩:∃Y,Y=w2.alloc (.cells kz 30):=⟨_,rfl⟩;rw[←eg];have nC:Below w1.heap.size w1 wN:=by rw[eg];exact fZ.alloc fZ.size _
         have mJ:wN.heap[w2.heap.size]?=some (.cells kz 30 (0,0)):=by rw[eg];exact adk w2 _
         have nD:w1.heap.size≤w2.heap.size:=fZ.size;clear eg;refine ah rfl rfl (fun K hK=>?_);refine wp_store_row 30 (.tmp 7) (.tmp 43) rfl w2.heap.size cs rfl rfl 30 _ mJ J5.out KN.out Tp.out ?_;refine hK _ _ ⟨.inl (by decide),?_⟩;clear hK K;refine aB ?_;obtain⟨wE,ik⟩:=ae (wN.setRow w2.heap.size cs);obtain⟨gE,iS⟩:=ae w2.heap.size;rw[←ik,←iS];have hf:w1.heap.size≤gE∧wE.heap[gE]?=some (.cells cs 30 (0,0))∧Below w1.heap.size w1 wE:=⟨by rw[iS];exact nD,by rw[ik,iS];exact adt _ _ _ _ _ _ mJ,by rw[ik];exact au nC nD _⟩;clear ik iS;exact hT gE wE hf
       go_wp2_with fail;refine⟨(bq _ _),?_⟩;refine(show aI _ _ _ _ _ _ _ ((w1.alloc (.cells kz 30)).drew) from ?_);obtain⟨wN,eg⟩:∃Y,Y=(w1.alloc (.cells kz 30)).drew:=⟨_,rfl⟩;rw[←eg];have nC:Below w1.heap.size w1 wN:=by rw[eg];exact((adl _ w1).alloc (adi _) _).drew
       have mJ:wN.heap[w1.heap.size]?=some (.cells kz 30 (0,0)):=by rw[eg];exact adk w1 _
       have nD:w1.heap.size≤w1.heap.size:=adi _;clear eg;refine ah rfl rfl (fun K hK=>?_);go_wp2_with fail;refine(HN4.out _ nC).mono ?_;rintro e w2 ⟨rfl,mI⟩;have fZ:Below w1.heap.size w1 w2:=nC.trans (mI.mono nC.size);have Pj:=(mI.block _ (adg.1 mJ).1).trans mJ;go_wp2_with fail;refine⟨.inr (av mI),?_⟩;refine oY rfl rfl 30 #[(0,.tmp 26),(1,.tmp 30),(2,.tmp 34),(3,.tmp 38),(4,.tmp 42)] rfl cs HBu.out ?_
       refine ah rfl rfl (fun K hK=>?_);refine wp_store_row 30 (.tmp 7) (.tmp 43) rfl w1.heap.size cs rfl rfl 30 _ Pj J5.out KN.out Tp.out ?_;refine hK _ _ ⟨.inl (by decide),?_⟩;clear hK K;refine aB ?_;obtain⟨wE,ik⟩:=ae (w2.setRow w1.heap.size cs);obtain⟨gE,iS⟩:=ae w1.heap.size;rw[←ik,←iS];have hf:w1.heap.size≤gE∧wE.heap[gE]?=some (.cells cs 30 (0,0))∧Below w1.heap.size w1 wE:=⟨by rw[iS];exact nD,by rw[ik,iS];exact adt _ _ _ _ _ _ Pj,by rw[ik];exact au fZ nD _⟩;clear ik iS;exact hT gE wE hf
     rintro gK wE ⟨Rb,gK1,yA⟩;have Zr:Below w.heap.size w wE:=fA.trans (yA.mono fA.size);have hlK:gK<wE.heap.size:=(adg.1 gK1).1;have Zs:=(yA.block B lE).trans qq.out;have GK1:=ab gK1;have Zt:=ab Zs;have hlB:B<wE.heap.size:=ads lE yA.size;clear gK1 Zs HN4 HBu R5 R13 R45 c4 yL;go_wp2_with fail;refine(HNh.out _ yA).mono ?_;rintro e w2 ⟨rfl,lL⟩;have fZ:Below w.heap.size w w2:=Zr.trans (lL.mono Zr.size);have GK2:=ab ((lL.block gK hlK).trans GK1.out);have Zu:=ab ((lL.block B hlB).trans Zt.out);have Zv:gK<w2.heap.size:=ads hlK lL.size;have Zw:B<w2.heap.size:=ads hlB lL.size;clear lL GK1 Zt yA;go_wp2_with (refine adw rfl 30 (.tmp 7) rfl gK rfl 30 cs (0,0) _ GK2.out Tryz.underlying30 rfl J5.out ?_);refine(yR.out _).mono ?_;rintro e w3 ⟨rfl,xD⟩;have kD:Below w.heap.size w w3:=fZ.trans (xD.mono fZ.size);have GK3:=ab ((xD.block gK Zv).trans GK2.out);have Zx:=ab ((xD.block B Zw).trans Zu.out);have abx:gK<w3.heap.size:=ads Zv xD.size;have aby:B<w3.heap.size:=ads Zw xD.size;clear xD GK2 Zu yR;obtain⟨dp,Pp⟩:=ae k.depth;obtain⟨fg,Dh⟩:=ae k.finger;obtain⟨ch,Mu⟩:=ae k.child;obtain⟨p,hp⟩:=ae k.priv;obtain⟨gd,lQ⟩:=ae k.good;have qi:fg.length=4:=by rw[Dh];exact m5.out.finger
     have aS:∀j,w3.cell? ⟨gK,j,none⟩=(aW k)[j]?:=fun j=>by
      rw[adn _ _ _ _ _ _ GK3.out,DF.out];simp
     have c0:w3.cell? ⟨gK,0,none⟩=some (.int .u8 (dp.toNat:Int)):=by rw[aS 0,aW,Pp];rfl
     have c5:w3.cell? ⟨gK,5,none⟩=some (.int .u32 (ch:Int)):=by
      rw[aS 5,aW,List.getElem?_cons_succ,adC (by rw[B8_length,←Dh,qi];exact adi _),B8_length,←Dh,qi,Mu];rfl
     have RF:Hid (w3.rangeAt gK 1 (B8 fg)):=ab fun j v hv=>by
      have hj:j<(B8 fg).length:=(adE.1 hv).1;rw[Nat.add_comm,aS (j+1),aW,List.getElem?_cons_succ,adG (by rw[←Dh];exact hj),←Dh];exact hv
     have I4':=ab (show (Tryz.prog.info? 26).map (·.size)=some (B8 fg).length by rw[B8_length,qi];kernel_rfl);have HE4:=ab (eq4 fg qi);have HRv:Hid (R=if decide (hd=jd p)&&gd&&(decide (0<dp.toNat)||(decide (fg=[0,0,0,0])&&decide (ch=0))) then (0,k) else (3,aP)):=ab (by rw[HRk.out,hp,lQ,rU,Pp,Dh,Mu]);rw[←hp];rw[←lQ] at HGd;clear Pp Dh Mu hp lQ aS qi HRk I4 I32 I33;obtain⟨rt,hrt⟩:∃rt,rt=(decide (0<dp.toNat)||(decide (fg=[0,0,0,0])&&decide (ch=0))):=⟨_,rfl⟩;have T4:Hid (R=if decide (hd=jd p)&&gd&&rt then (0,k) else (3,aP)):=ab (by rw[HRv.out,hrt]);have Hrt:=ab hrt;clear hrt HRv;go_upto_if 48 with (fail)
     go_cut [9] (fun s9 wx=>s9=.int .u32 (jd p:Int)∧wx=w3)
     case first=>
      cases p
      all_goals
       go_wp2_with fail;go_meet;exact⟨rfl,rfl⟩
     case rest=>
      obtain⟨rfl,K2⟩:=hcut;rw[K2];clear K2;obtain⟨hw,LF⟩:=ae (jd p);rw[←LF];rw[←LF] at T4;clear LF;go_upto_region 12 with (fail)
      go_cut [10] (fun s10 wx=>s10=.bool rt∧wx=w3)
      case first=>
       by_cases SP:0<dp.toNat
       · have hdI:(0:Int)<(dp.toNat:Int):=by omega
         have He:rt=true:=by rw[Hrt.out,adA SP];rfl
         subst He;go_wp2_with ((with_reducible refine aL ?c1 26 (.tmp 53) ?c2 gK 1 ?c3 (B8 fg) _ RF.out Tryz.underlying26 ?c4 I4'.out ?_);(case c2=>rfl);(case c3=>rfl);(case c4=>rfl);(case c1=>kernel_rfl));go_meet;exact⟨rfl,rfl⟩
       have hdI:¬(0:Int)<(dp.toNat:Int):=by omega
       have hE:=HE4.out
       by_cases wV:fg=[0,0,0,0]
       · simp only[adA wV] at hE
         have He:rt=decide (ch=0):=by rw[Hrt.out,adI SP,adA wV];rfl
         have HHe:=ab He;clear wV He;obtain⟨bc,jT⟩:=ae (decide (ch=0));have hcB:((ch:Int)==0)=bc:=by rw[jT,Bool.eq_iff_iff];simp
         have NK:=ab jT;clear jT;go_wp2_with ((with_reducible refine aL ?c1 26 (.tmp 53) ?c2 gK 1 ?c3 (B8 fg) _ RF.out Tryz.underlying26 ?c4 I4'.out ?_);(case c2=>rfl);(case c3=>rfl);(case c4=>rfl);(case c1=>kernel_rfl));go_meet;exact⟨by rw[HHe.out,NK.out],rfl⟩
       simp only[adI wV] at hE;have He:rt=false:=by rw[Hrt.out,adI SP,adI wV];rfl
       subst He;clear wV;go_wp2_with ((with_reducible refine aL ?c1 26 (.tmp 53) ?c2 gK 1 ?c3 (B8 fg) _ RF.out Tryz.underlying26 ?c4 I4'.out ?_);(case c2=>rfl);(case c3=>rfl);(case c4=>rfl);(case c1=>kernel_rfl));go_meet;exact⟨rfl,rfl⟩
      case rest=>
       obtain⟨rfl,K2⟩:=hcut;rw[K2];clear K2;go_upto_region 13 with (fail)
       go_cut [74] (fun s74 wx=>∃b:Bool,s74=.bool b∧Hid (b=!(decide (hd=hw)&&gd&&rt))∧Hid (wx.heap[gK]?=some (.cells cs 30 (0,0)))∧Hid (wx.heap[B]?=some (.cells kz 30 (0,0)))∧Hid (Below w.heap.size w wx))
       case first=>
        by_cases J9:hd=hw
        · subst J9
          cases gd
          all_goals
           go_wp2_with ((with_reducible refine bu ?c1 30 (.tmp 7) ?c2 gK ?c3 30 cs (0,0) _ GK3.out Tryz.underlying30 ?c4 J5.out ?_);(case c2=>rfl);(case c3=>rfl);(case c4=>rfl);(case c1=>kernel_rfl));refine(HGd.out _).mono ?_;rintro e w4 ⟨rfl,C8⟩;have we:Hid (Below w.heap.size w w4):=ab (kD.trans (C8.mono kD.size));have GK4:=ab ((C8.block gK abx).trans GK3.out);have I0:=ab ((C8.block B aby).trans Zx.out);clear C8;go_wp2_with fail;go_meet;exact⟨_,rfl,ab (by simp),GK4,I0,we⟩
        have e1:((hd:Int)!=(hw:Int))=true:=by simp;omega
        have Hhd:=ab J9;clear J9;go_wp2_with fail;go_meet;exact⟨_,rfl,ab (by rw[adI Hhd.out];rfl),GK3,Zx,ab kD⟩
       case rest=>
        obtain⟨b9,rfl,Hb9,GK4,I0,we⟩:=hcut
        cases b9 with
        |true=>
         go_wp2_with ((with_reducible refine ado ?s1 30 (.tmp 2) (.tmp 75) ?s2 B kz ?s3 ?s4 30 _ I0.out ?s5 ?s6 EA ?_);(case s1=>rfl);(case s2=>rfl);(case s3=>rfl);(case s4=>rfl);(case s6=>rfl);(case s5=>kernel_rfl));have IX:R=(3,aP):=by rw[T4.out,if_neg (fun h=>by have:=Hb9.out;rw[h] at this;cases this)]
         refine adm (v:=.tuple #[.agg kz,.int .i64 3]) ?_ rfl ⟨by rw[IX,Ge];rfl,au we.out yx.out _⟩
         exact aA rfl _ _ B 30 kz (0,0) _ rfl (adt _ _ _ _ _ _ I0.out) _ rfl Tryz.underlying30 rfl (by kernel_rfl)
        |false=>
         go_wp2_with (first|((with_reducible refine adw ?_ 30 (.tmp 7) ?_ gK ?_ 30 cs (0,0) _ GK4.out Tryz.underlying30 ?_ J5.out ?_);rfl;rfl;rfl;rfl)|((with_reducible refine ado ?_ 30 (.tmp 2) (.tmp 76) ?_ B cs ?_ ?_ 30 _ I0.out J5.out KN.out Tp.out ?_);rfl;rfl;rfl;rfl));have IX:R=(0,k):=by rw[T4.out,if_pos (by have:=Hb9.out;revert this;cases (decide (hd=hw)&&gd&&rt)<;>simp)]
         refine adm (v:=.tuple #[.agg cs,.int .i64 0]) ?_ rfl ⟨by rw[IX,DF.out];rfl,au we.out yx.out _⟩
         exact aA rfl _ _ B 30 cs (0,0) _ rfl (adt _ _ _ _ _ _ I0.out) _ rfl Tryz.underlying30 rfl J5.out
   have acQ:¬((n:Int)=78):=by omega
   have hRv:R=(2,aP):=by rw[HR.out,if_pos rfl,uU,if_neg (by rw[←Hn.out];exact h78)]
   go_wp2_with (refine ado rfl 30 (.tmp 2) (.tmp 23) rfl B kz rfl rfl 30 _ qq.out (by kernel_rfl) rfl EA ?_);refine adm (v:=.tuple #[.agg kz,.int .i64 2]) ?_ rfl ⟨by rw[hRv,Ge];rfl,au fA yx.out _⟩
   exact aA rfl _ _ B 30 kz (0,0) _ rfl (adt _ _ _ _ _ _ qq.out) _ rfl Tryz.underlying30 rfl (by kernel_rfl)
 have hEI:¬((E:Int)=0):=by omega
 have hRv:R=(E,aP):=by rw[HR.out,if_neg qA]
 go_wp2_with (refine ado rfl 30 (.tmp 2) (.tmp 18) rfl B kz rfl rfl 30 _ qq.out (by kernel_rfl) rfl EA ?_);refine adm (v:=.tuple #[.agg kz,.int .i64 (E:Int)]) ?_ rfl ⟨by rw[hRv,Ge],au fA yx.out _⟩
 exact aA rfl _ _ B 30 kz (0,0) _ rfl (adt _ _ _ _ _ _ qq.out) _ rfl Tryz.underlying30 rfl (by kernel_rfl)
theorem T5 (F:Value→Nat→Value→World→Prop) {G:Prop} {T:Value→Nat→Value→World→Prop} (h2:(∀u g v w,F u g v w→T u g v w)→G) (h1:∀u g v w,F u g v w→T u g v w):G:=h2 h1
def mS (k:HKey):List UInt8:=lG (jd k.priv)++k.depth::(k.finger++(lG k.child++(k.chain++k.data)))
def lq (k:HKey):List UInt8:=lH (checked (mS k))
theorem o6 {k:HKey} (h:k.Ok):(mS k).length=78:=by simp[mS,lG,h.finger,h.chain,h.data]
theorem oC (k:HKey) (hk:k.Ok) (w:World):
 Calls Tryz.prog 9 #[.agg (aW k).toArray] w fun e W'=>e=.returned (.string ⟨(lq k).toArray⟩)∧Below w.heap.size w W':=by
 have bx:Tryz.prog.follows .mixedOrders=true:=by kernel_rfl
 obtain⟨cs,eA⟩:∃cs,cs=(aW k).toArray:=⟨_,rfl⟩;have yR:Hid (∀ww,Calls Tryz.prog 22 #[.agg cs] ww fun e W'=>e=.returned (.bool k.priv)∧Below ww.heap.size ww W'):=ab fun ww=>by rw[eA];exact iA k hk ww
 rw[←eA];have lZ:cs.size=71:=by rw[eA];simp[bO hk]
 have J5:=ab (show (Tryz.prog.info? 30).map (·.size)=some cs.size by rw[lZ];kernel_rfl);obtain⟨R,hR⟩:=ae (lq k);rw[←hR];have bG:=adk w (.cells cs 30);obtain⟨W0,bD⟩:=ae (w.alloc (.cells cs 30));rw[←bD] at bG;have de:Below w.heap.size w W0:=by rw[bD];exact(adl _ w).alloc (adi _) _
 have jh:W0.heap.size=w.heap.size+1:=by rw[bD];simp
 obtain⟨B,hB⟩:=ae w.heap.size;have HB:=ab hB;have ju:=ab bG;have wC:=ab bD;have lM:=ab jh;have DF:=ab eA;have HR:=ab hR;clear bG bD jh eA hR lZ hB;go_enter Tryz.func9,Tryz.ntmps9;go_wp2_with (first|(refine adw rfl 30 (.tmp 1) rfl w.heap.size rfl 30 cs (0,0) _ (adk w _) Tryz.underlying30 rfl J5.out ?_));refine(show W0=_ from wC.out)▸?_;rw[←HB.out] at de ju lM⊢;refine(yR.out _).mono ?_;rintro e w1 ⟨rfl,oT⟩;have fA:Below B w w1:=de.trans (oT.mono (by have:=lM.out;omega));have QZ:B<w1.heap.size:=by have:=oT.size;have:=lM.out;omega
 have so:w1.heap[B]?=some (.cells cs 30 (0,0)):=(oT.block B (by have:=lM.out;omega)).trans ju.out;have qq:=ab so;clear oT so yR de;obtain⟨p,hp⟩:=ae k.priv;obtain⟨hd,J9⟩:=ae (jd p);obtain⟨dp,Pp⟩:=ae k.depth
 have aS:∀j,w1.cell? ⟨B,j,none⟩=(aW k)[j]?:=fun j=>by
  rw[adn _ _ _ _ _ _ qq.out,DF.out];simp
 have c0:w1.cell? ⟨B,0,none⟩=some (.int .u8 (dp.toNat:Int)):=by rw[aS 0,aW,Pp];rfl
 obtain⟨fg,Dh⟩:=ae k.finger;obtain⟨ch,Mu⟩:=ae k.child;obtain⟨cn,KL⟩:=ae k.chain;obtain⟨da,hda⟩:=ae k.data;have qi:fg.length=4:=by rw[Dh];exact hk.finger
 have gb:cn.length=32:=by rw[KL];exact hk.chain
 have Tu:da.length=33:=by rw[hda];exact hk.data
 have Rc:ch<4294967296:=by rw[Mu];exact hk.child
 have oR:aW k=.int .u8 (dp.toNat:Int)::(B8 fg++ .int .u32 (ch:Int)::(B8 cn++B8 da)):=by rw[aW,Pp,Dh,Mu,KL,hda]
 have Rd:∀(o:Nat) (xs:List UInt8),(∀j (h:j<xs.length),(aW k)[o+j]?=some (.int .u8 (xs[j].toNat:Int)))→Sl w1 w1.heap.size (some ⟨B,o,none⟩) (B8 xs):=fun o xs h _=>⟨B,o,rfl,QZ,fun j hj=>by
  rw[aS (o+j),h j (by simpa using hj),ed]⟩
 have Sf:=ab (Rd 1 fg (fun j h=>by
  rw[oR,Nat.add_comm,List.getElem?_cons_succ,adG (by simpa using h),adp (by simpa using h),ed]))
 have Sc:=ab (Rd 6 cn (fun j h=>by
  rw[oR,show 6+j=(5+j)+1 by omega,List.getElem?_cons_succ,adC (by rw[B8_length,qi];omega),B8_length,qi,show 5+j-4=j+1 by omega,List.getElem?_cons_succ,adG (by simpa using h),adp (by simpa using h),ed]))
 have Sd:=ab (Rd 38 da (fun j h=>by
  rw[oR,show 38+j=(37+j)+1 by omega,List.getElem?_cons_succ,adC (by rw[B8_length,qi];omega),B8_length,qi,show 37+j-4=(32+j)+1 by omega,List.getElem?_cons_succ,adC (by rw[B8_length,gb];omega),B8_length,gb,show 32+j-32=j by omega,adp (by simpa using h),ed]))
 have C5:Hid (w1.cell? ⟨B,5,none⟩=some (.int .u32 (ch:Int))):=ab (by
  rw[aS 5,oR,List.getElem?_cons_succ,adC (by rw[B8_length,qi];exact adi _),B8_length,qi];rfl)
 have Dc:=ab (fun W=>uM ch Rc W);obtain⟨C4,hC4⟩:=ae (lG ch);rw[←hC4] at Dc;have MH:Hid (C4.length=4):=ab (by rw[hC4];rfl);have zV:=ab qi;have N3:=ab gb;have Hdl:=ab Tu;obtain⟨L4,hL4⟩:=ae (lG hd);have PC:Hid (R=lH (checked (((((L4++[dp])++fg)++C4)++cn)++da))):=ab (by rw[HR.out,lq,mS,hL4,J9,hp,Pp,Dh,hC4,Mu,KL,hda];simp);have I1:Hid (L4.length=4):=ab (by rw[hL4];rfl);rw[←hp];have Re:hd<4294967296:=by rw[J9];unfold jd;split<;>decide
 have HF:=ab (fun W=>uM hd Re W);rw[←hL4] at HF;clear hp Pp aS hL4 Re Dh Mu KL hda hC4 qi gb Tu oR Rd Rc HR DF
 cases p
 all_goals
  have IZ:=J9;unfold jd at IZ;simp only[if_true,if_false,Bool.false_eq_true] at IZ;subst IZ;clear J9;go_wp2_with fail;apply T5 (fun _ _ v wE=>Ow wE w1.heap.size 5 v (B8 (L4++[dp]))∧Below w1.heap.size w1 wE)
  · intro hT
    refine eo _ 5 _ bx (by kernel_rfl) (by intro c a d v w h;cases d<;>exact h) (ek (aJ _ (by intro c a d v w h;cases d<;>exact h)) (by kernel_rfl) 4 [(0,0),(2,0),(3,1)] _ (by kernel_rfl) (ei (aJ _ (by intro c a d v w h;cases d<;>exact h)) 1 4 3 _ (by kernel_rfl) (cq (aJ _ (by intro c a d v w h;cases d<;>exact h)) (by kernel_rfl) [(4,2),(5,2),(6,2)] _ (by kernel_rfl)) (cq (aJ _ (by intro c a d v w h;cases d<;>exact h)) (by kernel_rfl) [(1,2),(5,2),(6,2)] _ (by kernel_rfl)))) ?_
    repeat ((first|(refine ao rfl (fun K hK=>?_))|(refine aD rfl (fun K hK=>?_)));go_simp;(first|(refine hK _ ?_) );clear hK K;(try go_bits))
    refine ep rfl rfl rfl rfl (fun K hK=>?_) (fun K hK=>?_)
    · go_wp2_with fail
      refine(HF.out _).mono ?_;rintro e w2 ⟨v,rfl,ho,hb⟩;have yL:Below w1.heap.size w1 w2:=(adl _ w1).drew.trans hb;have VK:Ow w2 w1.heap.size 5 v (B8 L4):=ho;go_wp2_with fail;refine⟨av hb,?_⟩;refine ah rfl rfl (fun K hK=>?_);go_wp2_with fail;obtain⟨wN,eg⟩:=ae (w2.alloc (.cells #[.int .u8 (dp.toNat:Int)] 5))
      obtain⟨gN,rl⟩:=ae w2.heap.size;refine⟨.inr (bq _ _),?_⟩;rw[←eg,←rl];have lN:Below w1.heap.size w1 wN:=by rw[eg];exact yL.alloc yL.size _
      have hoN:Ow wN w1.heap.size 5 v (B8 L4):=by rw[eg];exact VK.alloc _
      have hsN:Sl wN (gN+1) (some ⟨gN,0,none⟩) [.int .u8 (dp.toNat:Int)]:=by rw[eg,rl];exact Sl.one w2 _ _
      have NS:∀r,aY v=some r→w1.heap.size≤r:=fun r hr=>(ho.row r hr).1
      clear eg rl VK hb yL ho;refine ah rfl rfl (fun K hK=>?_);refine b6 (m:=1) (c:=1) (base:=w1.heap.size) (xs:=B8 L4) (v:=v) (A:=some ⟨gN,0,none⟩) (B:=gN+1) (news:=[.int .u8 (dp.toNat:Int)]) lC (.tmp 8) (.tmp 11) rfl rfl hoN rfl hsN rfl (by simp;rfl) (by rw[B8_length,I1.out];simp[maxLen]) (by rw[B8_length,I1.out];decide) lN.size ?_;intro v3 w3 iW lV vC;rw[jU L4 _ dp rfl] at iW;have b5:Below w1.heap.size w1 w3:=lN.grown lV lN.size NS;refine(show K (Act.put _ (some 12) v3) w3 from ?_)
      conv in (Act.put _ (some 12) v3)=>simp[Act.put]
      refine hK _ _ ⟨.inl (by decide),?_⟩;clear hK K;refine ah rfl rfl (fun K hK=>?_);refine Go.BigFrame.wp_assign (.tmp 12) rfl ?_;refine(show K (Act.put _ (some 4) v3) w3 from ?_)
      conv in (Act.put _ (some 4) v3)=>simp[Act.put]
      refine hK _ _ ⟨.inl (by decide),?_⟩;clear hK K;refine aB ?_;exact hT v gN v3 w3 ⟨iW,b5⟩
    go_wp2_with fail;refine⟨bq _ _,?_⟩;obtain⟨wM,Zy⟩:∃wM,wM=(w1.alloc (.cells #[.int .u8 (dp.toNat:Int)] 5)).drew:=⟨_,rfl⟩
    obtain⟨gN,rl⟩:=ae w1.heap.size;rw[←Zy,←rl];have Zz:Below w1.heap.size w1 wM:=by rw[Zy];exact((adl _ w1).alloc (adi _) _).drew
    have hsM:Sl wM (gN+1) (some ⟨gN,0,none⟩) [.int .u8 (dp.toNat:Int)]:=by rw[Zy,rl];exact(Sl.one w1 _ _).drew
    have hzM:gN+1≤wM.heap.size:=by rw[Zy,rl];show _≤(World.alloc _ _).heap.size;rw[adD];exact adi _
    clear Zy rl;refine ah rfl rfl (fun K hK=>?_);go_wp2_with fail;refine(HF.out _).mono ?_;rintro e wN ⟨v,rfl,ho,hb⟩;have lN:Below w1.heap.size w1 wN:=Zz.trans (hb.mono Zz.size);have hoN:Ow wN w1.heap.size 5 v (B8 L4):=ho.mono Zz.size;have hsN:Sl wN (gN+1) (some ⟨gN,0,none⟩) [.int .u8 (dp.toNat:Int)]:=hsM.below (hb.mono hzM);have NS:∀r,aY v=some r→w1.heap.size≤r:=fun r hr=>Nat.le_trans Zz.size (ho.row r hr).1
    go_wp2_with fail;refine⟨.inr (av hb),?_⟩;clear hb Zz hsM hzM ho;refine ah rfl rfl (fun K hK=>?_);refine b6 (m:=1) (c:=1) (base:=w1.heap.size) (xs:=B8 L4) (v:=v) (A:=some ⟨gN,0,none⟩) (B:=gN+1) (news:=[.int .u8 (dp.toNat:Int)]) lC (.tmp 8) (.tmp 11) rfl rfl hoN rfl hsN rfl (by simp;rfl) (by rw[B8_length,I1.out];simp[maxLen]) (by rw[B8_length,I1.out];decide) lN.size ?_;intro v3 w3 iW lV vC;rw[jU L4 _ dp rfl] at iW;have b5:Below w1.heap.size w1 w3:=lN.grown lV lN.size NS;refine(show K (Act.put _ (some 12) v3) w3 from ?_)
    conv in (Act.put _ (some 12) v3)=>simp[Act.put]
    refine hK _ _ ⟨.inl (by decide),?_⟩;clear hK K;refine ah rfl rfl (fun K hK=>?_);refine Go.BigFrame.wp_assign (.tmp 12) rfl ?_;refine(show K (Act.put _ (some 4) v3) w3 from ?_)
    conv in (Act.put _ (some 4) v3)=>simp[Act.put]
    refine hK _ _ ⟨.inl (by decide),?_⟩;clear hK K;refine aB ?_;exact hT v gN v3 w3 ⟨iW,b5⟩
  rintro u g v wE ⟨ho,yA⟩;clear HF;go_wp2_with fail;refine sP (Below w1.heap.size w1) [(0,0),(1,0),(2,0),(4,0),(5,1),(8,0),(9,0),(3,2),(6,2),(7,2),(10,2),(11,2)] bx (by kernel_rfl) (by intro c a d v w h;cases d<;>exact h) yA.drew ?_
  repeat (refine pZ (by decide) rfl (fun K hK=>?_);go_simp;(first|(refine hK _ ?_) );clear hK K;(try go_bits))
  refine yB (.int .u32 (ch:Int)) (by decide) rfl rfl (fun W hW=>?_) ?_
  · have hcW:W.cell? ⟨B,5,none⟩=some (.int .u32 (ch:Int)):=(hW.cell (p:=⟨B,5,none⟩) QZ).trans C5.out
    clear ho yA;go_simp
  refine(show dO _ _ _ _ _ _ (Act.put _ (some 18) _) _ from ?_)
  conv in (Act.put _ (some 18) _)=>simp[Act.put]
  repeat (refine pZ (by decide) rfl (fun K hK=>?_);go_simp;(first|(refine hK _ ?_) );clear hK K;(try go_bits))
  obtain⟨wD,hwD⟩:=ae wE.drew;rw[←hwD];have MI:Below w1.heap.size w1 wD:=by rw[hwD];exact yA.drew
  have YY:Ow wD w1.heap.size 5 v (B8 (L4++[dp])):=by rw[hwD];exact ho.drew
  clear hwD ho yA;refine iM rfl rfl (fun K hK=>?_);refine b6 (m:=4) (c:=4) (base:=w1.heap.size) (xs:=B8 (L4++[dp])) (v:=v) (A:=some ⟨B,1,none⟩) (B:=wD.heap.size) (news:=B8 fg) lC (.tmp 13) (.tmp 15) rfl rfl YY rfl ((Sf.out.below MI).mono MI.size) (by rw[B8_length];exact zV.out) (aR _) (by simp only[B8_length,adv,List.length_singleton,I1.out,zV.out,MH.out,N3.out];simp[maxLen]) (by simp only[B8_length,adv,List.length_singleton,I1.out,zV.out,MH.out,N3.out];decide) MI.size ?_;intro v5 w5 vW NY JX;rw[←bp] at vW;have Bv:Below w1.heap.size w1 w5:=MI.grown NY MI.size (fun r hr=>(YY.row r hr).1);refine(show K (Act.put _ (some 16) v5) w5 from ?_)
  conv in (Act.put _ (some 16) v5)=>simp[Act.put]
  refine hK _ _ ⟨Bv,?_⟩;clear hK K;refine iM rfl rfl (fun K hK=>?_);go_wp2_with fail;refine(Dc.out _).mono ?_;rintro e w6 ⟨v6,rfl,H6,qR⟩;have uF:Below w1.heap.size w1 w6:=Bv.trans (qR.mono Bv.size);have ZA:Ow w6 w1.heap.size 5 v5 (B8 (L4++[dp]++fg)):=vW.below qR (adi _);obtain⟨A6,c6,rfl,hA6,acR⟩:=bw H6;rw[MH.out] at H6⊢;go_wp2_with fail;refine⟨uF,?_⟩;refine iM rfl rfl (fun K hK=>?_);refine b6 (m:=4) (c:=c6) (base:=w1.heap.size) (xs:=B8 (L4++[dp]++fg)) (v:=v5) (A:=A6) (B:=w6.heap.size) (news:=B8 C4) lC (.tmp 16) (.tmp 19) rfl rfl ZA rfl H6.sl (by rw[B8_length];exact MH.out) (aR _) (by simp only[B8_length,adv,List.length_singleton,I1.out,zV.out,MH.out,N3.out];simp[maxLen]) (by simp only[B8_length,adv,List.length_singleton,I1.out,zV.out,MH.out,N3.out];decide) uF.size ?_;intro v7 w7 ru hg7 hr7;rw[←bp] at ru;have Bx:Below w1.heap.size w1 w7:=uF.grown hg7 uF.size (fun r hr=>(ZA.row r hr).1);refine(show K (Act.put _ (some 20) v7) w7 from ?_)
  conv in (Act.put _ (some 20) v7)=>simp[Act.put]
  refine hK _ _ ⟨Bx,?_⟩;clear hK K;refine iM rfl rfl (fun K hK=>?_);refine b6 (m:=32) (c:=32) (base:=w1.heap.size) (xs:=B8 (L4++[dp]++fg++C4)) (v:=v7) (A:=some ⟨B,6,none⟩) (B:=w7.heap.size) (news:=B8 cn) lC (.tmp 20) (.tmp 22) rfl rfl ru rfl ((Sc.out.below Bx).mono Bx.size) (by rw[B8_length];exact N3.out) (aR _) (by simp only[B8_length,adv,List.length_singleton,I1.out,zV.out,MH.out,N3.out];simp[maxLen]) (by simp only[B8_length,adv,List.length_singleton,I1.out,zV.out,MH.out,N3.out];decide) Bx.size ?_;intro v8 w8 AX NR Vx;rw[←bp] at AX;have EC:Below w1.heap.size w1 w8:=Bx.grown NR Bx.size (fun r hr=>(ru.row r hr).1);refine(show K (Act.put _ (some 23) v8) w8 from ?_)
  conv in (Act.put _ (some 23) v8)=>simp[Act.put]
  refine hK _ _ ⟨EC,?_⟩;clear hK K;refine iM rfl rfl (fun K hK=>?_);refine Go.BigFrame.wp_assign (.tmp 23) rfl ?_;refine(show K (Act.put _ (some 4) v8) w8 from ?_)
  conv in (Act.put _ (some 4) v8)=>simp[Act.put]
  refine hK _ _ ⟨EC,?_⟩;clear hK K;refine AS ?_;have ZB:=(Sd.out.below EC).mono EC.size;go_wp2_with (at_builtin;go_loud (refine aX (m:=33) (c:=33) (base:=w1.heap.size) (xs:=B8 (L4++[dp]++fg++C4++cn)) (v:=v8) (A:=some ⟨B,38,none⟩) (B:=w8.heap.size) (news:=B8 da) lC rfl (.tmp 24) (.tmp 26) rfl rfl AX rfl ZB (by rw[B8_length];exact Hdl.out) (aR _) (by simp only[B8_length,adv,List.length_singleton,I1.out,zV.out,MH.out,N3.out];simp[maxLen]) (by simp only[B8_length,adv,List.length_singleton,I1.out,zV.out,MH.out,N3.out];decide) EC.size ?_);intro v9 w9 N4 hg9 hr9);rw[←bp] at N4;have DX:Below w1.heap.size w1 w9:=EC.grown hg9 EC.size (fun r hr=>(AX.row r hr).1);have T6:(L4++[dp]++fg++C4++cn++da).length=78:=by simp only[adv,List.length_singleton,I1.out,zV.out,MH.out,N3.out,Hdl.out]
  obtain⟨A9,c9,rfl,hA9,abz⟩:=bw N4;have Tx:=BQ A9 c9 _ w9 N4.sl (by rw[T6];omega) hA9 abz;rw[T6] at Tx⊢;rw[←PC.out] at Tx;refine Tx.mono ?_;rintro e w10 ⟨rfl,ZC⟩;have lW:Below B w w10:=fA.trans ((DX.trans (ZC.mono DX.size)).mono (Nat.le_of_lt QZ));clear Tx ZC N4 hg9 hr9 T6 ZB;go_wp2_with fail;go_ret;exact⟨rfl,by rw[←HB.out];exact lW⟩
end Go.Proofs.YtnlkdheaohocnaaGreatDoor
