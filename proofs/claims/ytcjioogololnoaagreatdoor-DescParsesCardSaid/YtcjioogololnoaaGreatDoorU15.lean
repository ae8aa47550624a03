/- Of any text: the program's descriptors and the reference's are read and written alike (DescParses). No condition. -/
import Derived.Test.YtcjioogololnoaaGreatDoorU1
import Derived.Deep.DeepCutAuto
import Derived.Test.YtcjioogololnoaaGreatDoorU13
import Derived.Test.YtcjioogololnoaaGreatDoorU3
import Derived.Test.YtcjioogololnoaaGreatDoorU9
set_option maxRecDepth 1000000
set_option maxHeartbeats 16000000
set_option linter.unusedVariables false
set_option linter.unusedSimpArgs false
namespace Go.Proofs.YtcjioogololnoaaGreatDoor
open Go Go.RowKit Go.Shelf
def kz:Array Value:=#[.int .u8 0,.int .u8 0,.int .u8 0,.int .u8 0,.int .u8 0,.int .u32 0,.int .u8 0,.int .u8 0,.int .u8 0,.int .u8 0,.int .u8 0,.int .u8 0,.int .u8 0,.int .u8 0,.int .u8 0,.int .u8 0,.int .u8 0,.int .u8 0,.int .u8 0,.int .u8 0,.int .u8 0,.int .u8 0,.int .u8 0,.int .u8 0,.int .u8 0,.int .u8 0,.int .u8 0,.int .u8 0,.int .u8 0,.int .u8 0,.int .u8 0,.int .u8 0,.int .u8 0,.int .u8 0,.int .u8 0,.int .u8 0,.int .u8 0,.int .u8 0,.int .u8 0,.int .u8 0,.int .u8 0,.int .u8 0,.int .u8 0,.int .u8 0,.int .u8 0,.int .u8 0,.int .u8 0,.int .u8 0,.int .u8 0,.int .u8 0,.int .u8 0,.int .u8 0,.int .u8 0,.int .u8 0,.int .u8 0,.int .u8 0,.int .u8 0,.int .u8 0,.int .u8 0,.int .u8 0,.int .u8 0,.int .u8 0,.int .u8 0,.int .u8 0,.int .u8 0,.int .u8 0,.int .u8 0,.int .u8 0,.int .u8 0,.int .u8 0,.int .u8 0]
theorem pX:kz=(ba aP).toArray:=by kernel_rfl
theorem mQ:kz.all (·.oneCell')=true:=by rw[pX];exact jK _
theorem eq4 (f:List UInt8) (h:f.length=4) (w:World):(Op.equalIn 10000 54 (.agg (B8 f).toArray) (.agg #[.int .u8 0,.int .u8 0,.int .u8 0,.int .u8 0])).run Tryz.prog w=.ok (decide (f=[0,0,0,0])) w:=by
 match f,h with
 |[a,b,c,d],_=>
  have hz:∀x:UInt8,(x.toNat=0)↔x=0:=fun x=>by
   constructor
   · intro e
     exact UInt8.toNat_inj.1 (by rw[e];rfl)
   rintro rfl;rfl
  simp only[B8,List.map];have u3:=Tryz.underlying5;have a3:=Tryz.isAgg5;have z3:=Tryz.sizeOf5;rw[show (10000:Nat)=9999+1 from rfl,Op.equalIn];simp only[Sem.run_bind,run_underlying Tryz.underlying54,Result.andThen_ok];simp only[Std.Legacy.Range.forIn_eq_forIn_range',Std.Legacy.Range.size,Nat.sub_zero,Nat.add_sub_cancel,Nat.div_one,List.range'_succ,List.range'_zero,List.forIn_cons,List.forIn_nil];go_simp;simp only[List.cons.injEq,and_true,←hz]
  by_cases h1:a.toNat=0<;>by_cases h2:b.toNat=0<;>by_cases h3:c.toNat=0<;>by_cases h4:d.toNat=0<;>simp[h1,h2,h3,h4]
theorem kA {w:World} {b o:Nat} {D:List UInt8} (aD:∀j (h:j<D.length),w.cell? ⟨b,o+j,none⟩=some (.int .u8 (D[j].toNat:Int))) (k m:Nat) (xs:List UInt8) (hx:xs=(D.drop k).take m):w.rangeAt b (o+k) (B8 xs):=fun j v hv=>by
 have hj:j<(B8 xs).length:=(agI.1 hv).1;have hjx:j<xs.length:=by simpa using hj
 rw[age hj,dd] at hv;have hkj:k+j<D.length:=by rw[hx,agj,agD] at hjx;omega
 have e:xs[j]=D[k+j]:=by
  subst hx;simp
 rw[Nat.add_assoc,aD (k+j) hkj,←e];exact hv
theorem OC (b:List UInt8) (h:4≤b.length):∃p q r s t,b=p::q::r::s::t:=by
 match b,h with
 |p::q::r::s::t,_=>exact⟨p,q,r,s,t,rfl⟩
theorem vX (s:ByteArray) (hsz:s.size≤4096) (w:World):
 Calls Tryz.prog 68 #[.string s] w fun e W'=>e=.returned (.tuple #[.agg (ba (cM s.data.toList).2).toArray,.int .i64 ((cM s.data.toList).1:Int)])∧Below w.heap.size w W':=by
 have bW:Tryz.prog.follows .mixedOrders=true:=by kernel_rfl
 obtain⟨R,hR⟩:=ab (cM s.data.toList);rw[←hR];obtain⟨E,hE⟩:∃E,E=(ff s.data.toList).1:=⟨_,rfl⟩;obtain⟨D,hD⟩:∃D,D=(ff s.data.toList).2:=⟨_,rfl⟩;have HR:Hid (R=if E=0 then ku D else (E,aP)):=aa (by rw[hR,hE,hD];rfl);have Yg:=fun ww=>AR s ww hsz
 rw[←hE,←hD] at Yg;have Yh:=aa Yg;obtain⟨n,hn⟩:=ab D.length;rw[←hn] at Yh;have Hn:=aa hn;clear hR hE hD Yg hn hsz;go_enter Tryz.func68,Tryz.ntmps68;have aF:=af4 w (.cells kz 59);obtain⟨W0,aM⟩:=ab (w.alloc (.cells kz 59));rw[←aM] at aF;have bL:Below w.heap.size w W0:=by rw[aM];exact(af5 _ w).alloc (af2 _) _
 have iC:W0.heap.size=w.heap.size+1:=by rw[aM];simp
 go_wp2_with fail;refine(show W0=_ from aM)▸?_;obtain⟨B,hB⟩:=ab w.heap.size;rw[←hB] at aF iC⊢;clear aM;have HB:=aa hB;have kM:=aa iC;have eC:=aa aF;have HBl:=aa (af3.1 aF).1;clear hB iC aF;refine(Yh.out W0).mono ?_;rintro e w1 ⟨A,c,rfl,hs,⟨hnc,Ev⟩,aZ⟩;have Dj:=(aZ.block B HBl.out).trans eC.out;have dy:=bL.trans (aZ.mono bL.size);have j7:B<w1.heap.size:=agq HBl.out aZ.size;have ld:=aa Dj;have Hs:=aa hs;have hBw:Hid (w.heap.size≤B):=aa (by rw[HB.out];exact af2 _);clear Yh eC Dj hs aZ bL
 by_cases me:E=0
 · subst me
   by_cases h78:n=78
   · subst h78
     have kQ:D.length=78:=Hn.out.symm;obtain⟨b0,o0,rfl,Yi,aD⟩:=Hs.out.at_ (k:=0) (by omega);have adj:78≤c:=hnc;have ae8:¬c=45:=by omega
     have rM:=rL D kQ;obtain⟨k,hk⟩:=ab (fU D);have sZ:Hid (R=if decide (dY (D.take 4)=eb k.priv)&&k.good&&qy k then (0,k) else (3,aP)):=aa (by rw[HR.out,if_pos rfl,ku,if_pos kQ,hk]);rw[←hk] at rM;obtain⟨p0,p1,p2,p3,pt,hp⟩:=OC D (by omega);obtain⟨q0,q1,q2,q3,qt,hq⟩:=OC (D.drop 9) (by simp[kQ]);obtain⟨hd,MA⟩:=ab (dY (D.take 4));rw[←MA] at sZ
     have c4:w1.cell? ⟨b0,o0+4,none⟩=some (.int .u8 (k.depth.toNat:Int)):=by
      rw[aD 4 (by omega),hk];simp[fU,kQ]
     have R5:=aa (kA aD 5 4 k.finger (by rw[hk];rfl));have R13:=aa (kA aD 13 32 k.chain (by rw[hk];rfl));have R45:=aa (kA aD 45 33 k.data (by rw[hk];show D.drop 45=_;exact(af7 (by rw[agD,kQ];exact af2 _)).symm))
     have vY:Sl w1 w1.heap.size (some ⟨b0,o0+9,none⟩) (B8 (q0::q1::q2::q3::qt)):=by
      have h1:=Hs.out.cut (k:=9) (m:=69) (cap:=c) (by rw[B8_length,kQ];omega) (by rw[B8_length,kQ];exact adj);rw[if_neg (by omega),af7 (by rw[agD,B8_length,kQ];exact af2 _),←oR,hq] at h1;exact h1
     have SE:qt.length+4=69:=by
      have:=congrArg List.length hq;rw[agD,kQ] at this;simp at this;omega
     have om:k.child=dY [q0,q1,q2,q3]:=by rw[hk];show dY ((D.drop 9).take 4)=_;rw[hq];rfl
     have KF:hd=dY [p0,p1,p2,p3]:=by rw[MA,hp];rfl
     have Yj:=Hs.out;rw[hp] at Yj;have tH:pt.length+4=78:=by rw[hp] at kQ;simpa using kQ
     have HN4:Hid (∀X,Below w1.heap.size w1 X→Calls Tryz.prog 100 #[.slice (some ⟨b0,o0+9,none⟩) 69 (c-9)] X fun e W'=>e=.returned (.int .u32 (k.child:Nat))∧Below X.heap.size X W'):=
      aa fun X hX=>by rw[om];exact tO _ 69 (c-9) q0 q1 q2 q3 qt X ((vY.below hX).mono hX.size) SE.symm
     have HNh:Hid (∀X,Below w1.heap.size w1 X→Calls Tryz.prog 100 #[.slice (some ⟨b0,o0,none⟩) 78 c] X fun e W'=>e=.returned (.int .u32 (hd:Nat))∧Below X.heap.size X W'):=
      aa fun X hX=>by rw[KF];exact tO _ 78 c p0 p1 p2 p3 pt X ((Yj.below hX).mono hX.size) tH.symm
     obtain⟨cs,bB⟩:∃cs,cs=(ba k).toArray:=⟨_,rfl⟩;have dX:cs.size=71:=by rw[bB];simp[aI rM]
     have Yk:Hid (Tryz.prog.built 59 [(0,.int .u8 (k.depth.toNat:Int)),(1,.agg (B8 k.finger).toArray),(2,.int .u32 (k.child:Int)),(3,.agg (B8 k.chain).toArray),(4,.agg (B8 k.data).toArray)]=some cs):=aa (by rw[bB];exact KD k rM);have fJ:Hid ((Tryz.prog.info? 59).map (·.size)=some cs.size):=aa (by rw[dX];kernel_rfl);have kL:Hid (kz.size=cs.size):=aa (by rw[dX];rfl);have mR:Hid (cs.all (·.oneCell')=true):=aa (by rw[bB];exact jK k);have I4:=aa (show (Tryz.prog.info? 54).map (·.size)=some (B8 k.finger).length by rw[B8_length,rM.finger];kernel_rfl);have I32:=aa (show (Tryz.prog.info? 56).map (·.size)=some (B8 k.chain).length by rw[B8_length,rM.chain];kernel_rfl);have I33:=aa (show (Tryz.prog.info? 57).map (·.size)=some (B8 k.data).length by rw[B8_length,rM.data];kernel_rfl);have Vz:=aa rM;have oX:=aa bB;have Fv:Hid (∀ww,Calls Tryz.prog 78 #[.agg cs] ww fun e W'=>e=.returned (.bool k.priv)∧Below ww.heap.size ww W'):=aa fun ww=>by rw[bB];exact la k rM ww
     have HGd:Hid (∀ww,Calls Tryz.prog 101 #[.agg cs] ww fun e W'=>e=.returned (.bool k.good)∧Below ww.heap.size ww W'):=aa fun ww=>by rw[bB];exact On k rM ww
     clear aD hk hp hq MA KF om vY Yj SE tH bB dX kQ rM HR Hs;go_wp2_with fail;have u6:Below w1.heap.size w1 w1.drew:=(af5 _ _).drew;apply IE (fun gN wE=>w1.heap.size≤gN∧wE.heap[gN]?=some (.cells cs 59 (0,0))∧Below w1.heap.size w1 wE)
     · intro hT
       refine dH _ 21 _ bW (by kernel_rfl) (by intro c a d v w h;cases d<;>exact h) (dG (aw _ (by intro c a d v w h;cases d<;>exact h)) (by kernel_rfl) 4 [(0,0),(1,0),(2,1),(3,0),(4,0),(5,0),(6,1),(7,0),(8,0),(9,0),(11,0),(12,0),(13,0),(14,1),(15,0),(16,0),(17,0),(18,1)] _ (by kernel_rfl) (dE (aw _ (by intro c a d v w h;cases d<;>exact h)) 10 20 3 _ (by kernel_rfl) (bN (aw _ (by intro c a d v w h;cases d<;>exact h)) (by kernel_rfl) [(19,0),(20,2),(21,2)] _ (by kernel_rfl)) (bN (aw _ (by intro c a d v w h;cases d<;>exact h)) (by kernel_rfl) [(10,2),(19,0),(21,2)] _ (by kernel_rfl)))) ?_
       repeat ((first|refine ag rfl fun K hK=>?_|refine af rfl fun K hK=>?_);go_simp;(first|refine hK _ ?_|(simp only[IntWalk.iteOmega];go_simp;refine hK _ ?_)|(go_bits;go_simp;refine hK _ ?_));clear hK K;try go_bits)
       refine jV rfl rfl 54 (.tmp 28) rfl (some ⟨b0,o0+5,none⟩) 4 (c-5) 4 _ rfl Tryz.underlying54 (af2 _) ?_;refine eI rfl rfl 54 (.tmp 29) rfl b0 (o0+5) rfl (B8 k.finger) _ R5.out Tryz.underlying54 rfl I4.out ?_
       repeat ((first|refine ag rfl fun K hK=>?_|refine af rfl fun K hK=>?_);go_simp;(first|refine hK _ ?_|(simp only[IntWalk.iteOmega];go_simp;refine hK _ ?_)|(go_bits;go_simp;refine hK _ ?_));clear hK K;try go_bits)
       refine jV rfl rfl 56 (.tmp 36) rfl (some ⟨b0,o0+13,none⟩) 32 (c-13) 32 _ rfl Tryz.underlying56 (af2 _) ?_;refine eI rfl rfl 56 (.tmp 37) rfl b0 (o0+13) rfl (B8 k.chain) _ R13.out Tryz.underlying56 rfl I32.out ?_
       repeat ((first|refine ag rfl fun K hK=>?_|refine af rfl fun K hK=>?_);go_simp;(first|refine hK _ ?_|(simp only[IntWalk.iteOmega];go_simp;refine hK _ ?_)|(go_bits;go_simp;refine hK _ ?_));clear hK K;try go_bits)
       refine jV rfl rfl 57 (.tmp 40) rfl (some ⟨b0,o0+45,none⟩) 33 (c-45) 33 _ rfl Tryz.underlying57 (af2 _) ?_;refine eI rfl rfl 57 (.tmp 41) rfl b0 (o0+45) rfl (B8 k.data) _ R45.out Tryz.underlying57 rfl I33.out ?_
       repeat ((first|refine ag rfl fun K hK=>?_|refine af rfl fun K hK=>?_);go_simp;(first|refine hK _ ?_|(simp only[IntWalk.iteOmega];go_simp;refine hK _ ?_)|(go_bits;go_simp;refine hK _ ?_));clear hK K;try go_bits)
       refine dI rfl rfl rfl rfl (fun K hK=>?_) (fun K hK=>?_)
       · go_wp2_with fail
         refine(HN4.out _ u6).mono ?_;rintro e w2 ⟨rfl,l9⟩;have dZ:Below w1.heap.size w1 w2:=u6.trans (l9.mono u6.size);go_wp2_with fail;refine⟨(aj l9),?_⟩;refine pW rfl rfl 59 #[(0,.tmp 26),(1,.tmp 30),(2,.tmp 34),(3,.tmp 38),(4,.tmp 42)] rfl cs Yk.out ?_
         refine ae rfl rfl (fun K hK=>?_);go_wp2_with fail;refine⟨.inr (aW _ _),?_⟩;refine(show ay _ _ _ _ _ _ _ (w2.alloc (.cells kz 59)) from ?_);obtain⟨wN,dL⟩:∃Y,Y=w2.alloc (.cells kz 59):=⟨_,rfl⟩;rw[←dL];have nZ:Below w1.heap.size w1 wN:=by rw[dL];exact dZ.alloc dZ.size _
         have mO:wN.heap[w2.heap.size]?=some (.cells kz 59 (0,0)):=by rw[dL];exact af4 w2 _
         have nF:w1.heap.size≤w2.heap.size:=dZ.size;clear dL;refine ae rfl rfl (fun K hK=>?_);refine agC 59 (.tmp 7) (.tmp 43) rfl w2.heap.size cs rfl rfl 59 _ mO fJ.out kL.out mR.out ?_;refine hK _ _ ⟨.inl (by decide),?_⟩;clear hK K;refine ak ?_;obtain⟨wE,fR⟩:=ab (wN.setRow w2.heap.size cs);obtain⟨gE,gV⟩:=ab w2.heap.size;rw[←fR,←gV];have hf:w1.heap.size≤gE∧wE.heap[gE]?=some (.cells cs 59 (0,0))∧Below w1.heap.size w1 wE:=⟨by rw[gV];exact nF,by rw[fR,gV];exact agd _ _ _ _ _ _ mO,by rw[fR];exact ah nZ nF _⟩;clear fR gV;exact hT gE wE hf
       go_wp2_with fail;refine⟨(aW _ _),?_⟩;refine(show ay _ _ _ _ _ _ _ ((w1.alloc (.cells kz 59)).drew) from ?_);obtain⟨wN,dL⟩:∃Y,Y=(w1.alloc (.cells kz 59)).drew:=⟨_,rfl⟩;rw[←dL];have nZ:Below w1.heap.size w1 wN:=by rw[dL];exact((af5 _ w1).alloc (af2 _) _).drew
       have mO:wN.heap[w1.heap.size]?=some (.cells kz 59 (0,0)):=by rw[dL];exact af4 w1 _
       have nF:w1.heap.size≤w1.heap.size:=af2 _;clear dL;refine ae rfl rfl (fun K hK=>?_);go_wp2_with fail;refine(HN4.out _ nZ).mono ?_;rintro e w2 ⟨rfl,l9⟩;have dZ:Below w1.heap.size w1 w2:=nZ.trans (l9.mono nZ.size);have SX:=(l9.block _ (af3.1 mO).1).trans mO;go_wp2_with fail;refine⟨.inr (aj l9),?_⟩;refine pW rfl rfl 59 #[(0,.tmp 26),(1,.tmp 30),(2,.tmp 34),(3,.tmp 38),(4,.tmp 42)] rfl cs Yk.out ?_
       refine ae rfl rfl (fun K hK=>?_);refine agC 59 (.tmp 7) (.tmp 43) rfl w1.heap.size cs rfl rfl 59 _ SX fJ.out kL.out mR.out ?_;refine hK _ _ ⟨.inl (by decide),?_⟩;clear hK K;refine ak ?_;obtain⟨wE,fR⟩:=ab (w2.setRow w1.heap.size cs);obtain⟨gE,gV⟩:=ab w1.heap.size;rw[←fR,←gV];have hf:w1.heap.size≤gE∧wE.heap[gE]?=some (.cells cs 59 (0,0))∧Below w1.heap.size w1 wE:=⟨by rw[gV];exact nF,by rw[fR,gV];exact agd _ _ _ _ _ _ SX,by rw[fR];exact ah dZ nF _⟩;clear fR gV;exact hT gE wE hf
     rintro gK wE ⟨Ry,gK1,CL⟩;have aa3:Below w.heap.size w wE:=dy.trans (CL.mono dy.size);have hlK:gK<wE.heap.size:=(af3.1 gK1).1;have aa4:=(CL.block B j7).trans ld.out;have GK1:=aa gK1;have aa5:=aa aa4;have Yl:B<wE.heap.size:=agq j7 CL.size;clear gK1 aa4 HN4 Yk R5 R13 R45 c4 u6;go_wp2_with fail;refine(HNh.out _ CL).mono ?_;rintro e w2 ⟨rfl,ez⟩;have dZ:Below w.heap.size w w2:=aa3.trans (ez.mono aa3.size);have GK2:=aa ((ez.block gK hlK).trans GK1.out);have oo:=aa ((ez.block B Yl).trans aa5.out);have aa6:gK<w2.heap.size:=agq hlK ez.size;have aa7:B<w2.heap.size:=agq Yl ez.size;clear ez GK1 aa5 CL;go_wp2_with (refine aga rfl 59 (.tmp 7) rfl gK rfl 59 cs (0,0) _ GK2.out Tryz.underlying59 rfl fJ.out ?_);refine(Fv.out _).mono ?_;rintro e w3 ⟨rfl,vR⟩;have de:Below w.heap.size w w3:=dZ.trans (vR.mono dZ.size);have Ym:=aa ((vR.block gK aa6).trans GK2.out);have fo:=aa ((vR.block B aa7).trans oo.out);have adk:gK<w3.heap.size:=agq aa6 vR.size;have adl:B<w3.heap.size:=agq aa7 vR.size;clear vR GK2 oo Fv;obtain⟨dp,Cs⟩:=ab k.depth;obtain⟨fg,Dk⟩:=ab k.finger;obtain⟨ch,we⟩:=ab k.child;obtain⟨p,hp⟩:=ab k.priv;obtain⟨gd,tF⟩:=ab k.good;have nM:fg.length=4:=by rw[Dk];exact Vz.out.finger
     have aD:∀j,w3.cell? ⟨gK,j,none⟩=(ba k)[j]?:=fun j=>by
      rw[agb _ _ _ _ _ _ Ym.out,oX.out];simp
     have c0:w3.cell? ⟨gK,0,none⟩=some (.int .u8 (dp.toNat:Int)):=by rw[aD 0,ba,Cs];rfl
     have c5:w3.cell? ⟨gK,5,none⟩=some (.int .u32 (ch:Int)):=by
      rw[aD 5,ba,agG,agv (by rw[B8_length,←Dk,nM];exact af2 _),B8_length,←Dk,nM,we];rfl
     have RF:Hid (w3.rangeAt gK 1 (B8 fg)):=aa fun j v hv=>by
      have hj:j<(B8 fg).length:=(agI.1 hv).1;rw[Nat.add_comm,aD (j+1),ba,agG,agK (by rw[←Dk];exact hj),←Dk];exact hv
     have I4':=aa (show (Tryz.prog.info? 54).map (·.size)=some (B8 fg).length by rw[B8_length,nM];kernel_rfl);have HE4:=aa (eq4 fg nM);have lf:Hid (R=if decide (hd=eb p)&&gd&&(decide (0<dp.toNat)||(decide (fg=[0,0,0,0])&&decide (ch=0))) then (0,k) else (3,aP)):=aa (by rw[sZ.out,hp,tF,qy,Cs,Dk,we]);rw[←hp];rw[←tF] at HGd;have ae9:=aa oX.out;clear Cs Dk we hp tF aD nM sZ I4 I32 I33;obtain⟨rt,hrt⟩:∃rt,rt=(decide (0<dp.toNat)||(decide (fg=[0,0,0,0])&&decide (ch=0))):=⟨_,rfl⟩;have Yn:Hid (R=if decide (hd=eb p)&&gd&&rt then (0,k) else (3,aP)):=aa (by rw[lf.out,hrt]);have Hrt:=aa hrt;clear hrt lf;go_upto_if 48 with (fail)
     go_cut [9] (fun s9 wx=>s9=.int .u32 (eb p:Int)∧wx=w3)
     case first=>
      cases p
      all_goals
       go_wp2_with fail;go_meet;exact⟨rfl,rfl⟩
     case rest=>
      obtain⟨rfl,CJ⟩:=hcut;rw[CJ];clear CJ;obtain⟨hw,N5⟩:=ab (eb p);rw[←N5];rw[←N5] at Yn;clear N5;go_upto_region 12 with (fail)
      go_cut [10] (fun s10 wx=>s10=.bool rt∧wx=w3)
      case first=>
       by_cases Kp:0<dp.toNat
       · have VA:(0:Int)<(dp.toNat:Int):=by omega
         have He:rt=true:=by rw[Hrt.out,af9 Kp];rfl
         subst He;go_wp2_with ((with_reducible refine bj ?c1 54 (.tmp 53) ?c2 gK 1 ?c3 (B8 fg) _ RF.out Tryz.underlying54 ?c4 I4'.out ?_);(case c2=>rfl);(case c3=>rfl);(case c4=>rfl);(case c1=>kernel_rfl));go_meet;exact⟨rfl,rfl⟩
       have VA:¬(0:Int)<(dp.toNat:Int):=by omega
       have hE:=HE4.out
       by_cases lR:fg=[0,0,0,0]
       · simp only[af9 lR] at hE
         have He:rt=decide (ch=0):=by rw[Hrt.out,af8 Kp,af9 lR];rfl
         have HHe:=aa He;clear lR He;obtain⟨bc,sF⟩:=ab (decide (ch=0));have hcB:((ch:Int)==0)=bc:=by rw[sF,Bool.eq_iff_iff];simp
         have Hbc:=aa sF;clear sF;go_wp2_with ((with_reducible refine bj ?c1 54 (.tmp 53) ?c2 gK 1 ?c3 (B8 fg) _ RF.out Tryz.underlying54 ?c4 I4'.out ?_);(case c2=>rfl);(case c3=>rfl);(case c4=>rfl);(case c1=>kernel_rfl));go_meet;exact⟨by rw[HHe.out,Hbc.out],rfl⟩
       simp only[af8 lR] at hE;have He:rt=false:=by rw[Hrt.out,af8 Kp,af8 lR];rfl
       subst He;clear lR;go_wp2_with ((with_reducible refine bj ?c1 54 (.tmp 53) ?c2 gK 1 ?c3 (B8 fg) _ RF.out Tryz.underlying54 ?c4 I4'.out ?_);(case c2=>rfl);(case c3=>rfl);(case c4=>rfl);(case c1=>kernel_rfl));go_meet;exact⟨rfl,rfl⟩
      case rest=>
       obtain⟨rfl,CJ⟩:=hcut;rw[CJ];clear CJ;go_upto_region 13 with (fail)
       go_cut [74] (fun s74 wx=>∃b:Bool,s74=.bool b∧Hid (b=!(decide (hd=hw)&&gd&&rt))∧Hid (wx.heap[gK]?=some (.cells cs 59 (0,0)))∧Hid (wx.heap[B]?=some (.cells kz 59 (0,0)))∧Hid (Below w.heap.size w wx))
       case first=>
        by_cases MA:hd=hw
        · subst MA
          cases gd
          all_goals
           go_wp2_with ((with_reducible refine cF ?c1 59 (.tmp 7) ?c2 gK ?c3 59 cs (0,0) _ Ym.out Tryz.underlying59 ?c4 fJ.out ?_);(case c2=>rfl);(case c3=>rfl);(case c4=>rfl);(case c1=>kernel_rfl));refine(HGd.out _).mono ?_;rintro e w4 ⟨rfl,Aq⟩;have lG:Hid (Below w.heap.size w w4):=aa (de.trans (Aq.mono de.size));have FC:=aa ((Aq.block gK adk).trans Ym.out);have ic:=aa ((Aq.block B adl).trans fo.out);clear Aq;go_wp2_with fail;go_meet;exact⟨_,rfl,aa (by simp),FC,ic,lG⟩
        have e1:((hd:Int)!=(hw:Int))=true:=by simp;omega
        have Hhd:=aa MA;clear MA;go_wp2_with fail;go_meet;exact⟨_,rfl,aa (by rw[af8 Hhd.out];rfl),Ym,fo,aa de⟩
       case rest=>
        obtain⟨b9,rfl,FD,FC,ic,lG⟩:=hcut
        cases b9 with
        |true=>
         go_wp2_with ((with_reducible refine af6 ?s1 59 (.tmp 2) (.tmp 75) ?s2 B kz ?s3 ?s4 59 _ ic.out ?s5 ?s6 mQ ?_);(case s1=>rfl);(case s2=>rfl);(case s3=>rfl);(case s4=>rfl);(case s6=>rfl);(case s5=>kernel_rfl));have FE:R=(3,aP):=by rw[Yn.out,if_neg (fun h=>by have:=FD.out;rw[h] at this;cases this)]
         refine agf (v:=.tuple #[.agg kz,.int .i64 3]) ?_ rfl ⟨by rw[FE,pX];rfl,ah lG.out hBw.out _⟩
         exact ai rfl _ _ B 59 kz (0,0) _ rfl (agd _ _ _ _ _ _ ic.out) _ rfl Tryz.underlying59 rfl (by kernel_rfl)
        |false=>
         go_wp2_with (first|((with_reducible refine aga ?_ 59 (.tmp 7) ?_ gK ?_ 59 cs (0,0) _ FC.out Tryz.underlying59 ?_ fJ.out ?_);rfl;rfl;rfl;rfl)|((with_reducible refine af6 ?_ 59 (.tmp 2) (.tmp 76) ?_ B cs ?_ ?_ 59 _ ic.out fJ.out kL.out mR.out ?_);rfl;rfl;rfl;rfl));have FE:R=(0,k):=by rw[Yn.out,if_pos (by have:=FD.out;revert this;cases (decide (hd=hw)&&gd&&rt)<;>simp)]
         refine agf (v:=.tuple #[.agg cs,.int .i64 0]) ?_ rfl ⟨by rw[FE,oX.out];rfl,ah lG.out hBw.out _⟩
         exact ai rfl _ _ B 59 cs (0,0) _ rfl (agd _ _ _ _ _ _ ic.out) _ rfl Tryz.underlying59 rfl fJ.out
   have afa:¬((n:Int)=78):=by omega
   have x4:R=(2,aP):=by rw[HR.out,if_pos rfl,ku,if_neg (by rw[←Hn.out];exact h78)]
   go_wp2_with (refine af6 rfl 59 (.tmp 2) (.tmp 23) rfl B kz rfl rfl 59 _ ld.out (by kernel_rfl) rfl mQ ?_);refine agf (v:=.tuple #[.agg kz,.int .i64 2]) ?_ rfl ⟨by rw[x4,pX];rfl,ah dy hBw.out _⟩
   exact ai rfl _ _ B 59 kz (0,0) _ rfl (agd _ _ _ _ _ _ ld.out) _ rfl Tryz.underlying59 rfl (by kernel_rfl)
 have hEI:¬((E:Int)=0):=by omega
 have x4:R=(E,aP):=by rw[HR.out,if_neg me]
 go_wp2_with (refine af6 rfl 59 (.tmp 2) (.tmp 18) rfl B kz rfl rfl 59 _ ld.out (by kernel_rfl) rfl mQ ?_);refine agf (v:=.tuple #[.agg kz,.int .i64 (E:Int)]) ?_ rfl ⟨by rw[x4,pX],ah dy hBw.out _⟩
 exact ai rfl _ _ B 59 kz (0,0) _ rfl (agd _ _ _ _ _ _ ld.out) _ rfl Tryz.underlying59 rfl (by kernel_rfl)
theorem Yo (F:Value→Nat→Value→World→Prop) {G:Prop} {T:Value→Nat→Value→World→Prop} (h2:(∀u g v w,F u g v w→T u g v w)→G) (h1:∀u g v w,F u g v w→T u g v w):G:=h2 h1
def fV (k:HKey):List UInt8:=fF (eb k.priv)++k.depth::(k.finger++(fF k.child++(k.chain++k.data)))
def eO (k:HKey):List UInt8:=fK (checked (fV k))
theorem pY {k:HKey} (h:k.Ok):(fV k).length=78:=by simp[fV,fF,h.finger,h.chain,h.data]
theorem KG (k:HKey) (hk:k.Ok) (w:World):
 Calls Tryz.prog 48 #[.agg (ba k).toArray] w fun e W'=>e=.returned (.string ⟨(eO k).toArray⟩)∧Below w.heap.size w W':=by
 have bW:Tryz.prog.follows .mixedOrders=true:=by kernel_rfl
 obtain⟨cs,bB⟩:∃cs,cs=(ba k).toArray:=⟨_,rfl⟩;have Fv:Hid (∀ww,Calls Tryz.prog 78 #[.agg cs] ww fun e W'=>e=.returned (.bool k.priv)∧Below ww.heap.size ww W'):=aa fun ww=>by rw[bB];exact la k hk ww
 rw[←bB];have dX:cs.size=71:=by rw[bB];simp[aI hk]
 have fJ:=aa (show (Tryz.prog.info? 59).map (·.size)=some cs.size by rw[dX];kernel_rfl);obtain⟨R,hR⟩:=ab (eO k);rw[←hR];have aF:=af4 w (.cells cs 59);obtain⟨W0,aM⟩:=ab (w.alloc (.cells cs 59));rw[←aM] at aF;have bL:Below w.heap.size w W0:=by rw[aM];exact(af5 _ w).alloc (af2 _) _
 have iC:W0.heap.size=w.heap.size+1:=by rw[aM];simp
 obtain⟨B,hB⟩:=ab w.heap.size;have HB:=aa hB;have eC:=aa aF;have gJ:=aa aM;have kM:=aa iC;have oX:=aa bB;have HR:=aa hR;clear aF aM iC bB hR dX hB;go_enter Tryz.func48,Tryz.ntmps48;go_wp2_with (first|(refine wpList_boxTo rfl 59 (.tmp 0) rfl _ rfl w.heap.size rfl cs rfl ?_)|(refine aga rfl 59 (.tmp 1) rfl w.heap.size rfl 59 cs (0,0) _ (af4 w _) Tryz.underlying59 rfl fJ.out ?_));refine(show W0=_ from gJ.out)▸?_;rw[←HB.out] at bL eC kM⊢;refine(Fv.out _).mono ?_;rintro e w1 ⟨rfl,dW⟩;have dy:Below B w w1:=bL.trans (dW.mono (by have:=kM.out;omega));have yi:B<w1.heap.size:=by have:=dW.size;have:=kM.out;omega
 have Dj:w1.heap[B]?=some (.cells cs 59 (0,0)):=(dW.block B (by have:=kM.out;omega)).trans eC.out;have ld:=aa Dj;clear dW Dj Fv bL;obtain⟨p,hp⟩:=ab k.priv;obtain⟨hd,MA⟩:=ab (eb p);obtain⟨dp,Cs⟩:=ab k.depth
 have aD:∀j,w1.cell? ⟨B,j,none⟩=(ba k)[j]?:=fun j=>by
  rw[agb _ _ _ _ _ _ ld.out,oX.out];simp
 have c0:w1.cell? ⟨B,0,none⟩=some (.int .u8 (dp.toNat:Int)):=by rw[aD 0,ba,Cs];rfl
 obtain⟨fg,Dk⟩:=ab k.finger;obtain⟨ch,we⟩:=ab k.child;obtain⟨cn,om⟩:=ab k.chain;obtain⟨da,uF⟩:=ab k.data;have nM:fg.length=4:=by rw[Dk];exact hk.finger
 have db:cn.length=32:=by rw[om];exact hk.chain
 have uQ:da.length=33:=by rw[uF];exact hk.data
 have IM:ch<4294967296:=by rw[we];exact hk.child
 have mG:ba k=.int .u8 (dp.toNat:Int)::(B8 fg++ .int .u32 (ch:Int)::(B8 cn++B8 da)):=by rw[ba,Cs,Dk,we,om,uF]
 have rO:∀(o:Nat) (xs:List UInt8),(∀j (h:j<xs.length),(ba k)[o+j]?=some (.int .u8 (xs[j].toNat:Int)))→Sl w1 w1.heap.size (some ⟨B,o,none⟩) (B8 xs):=fun o xs h _=>⟨B,o,rfl,yi,fun j hj=>by
  rw[aD (o+j),h j (by simpa using hj),dd]⟩
 have Sf:=aa (rO 1 fg (fun j h=>by
  rw[mG,Nat.add_comm,agG,agK (by simpa using h),age (by simpa using h),dd]))
 have Sc:=aa (rO 6 cn (fun j h=>by
  rw[mG,show 6+j=(5+j)+1 by omega,agG,agv (by rw[B8_length,nM];omega),B8_length,nM,show 5+j-4=j+1 by omega,agG,agK (by simpa using h),age (by simpa using h),dd]))
 have Sd:=aa (rO 38 da (fun j h=>by
  rw[mG,show 38+j=(37+j)+1 by omega,agG,agv (by rw[B8_length,nM];omega),B8_length,nM,show 37+j-4=(32+j)+1 by omega,agG,agv (by rw[B8_length,db];omega),B8_length,db,show 32+j-32=j by omega,age (by simpa using h),dd]))
 have C5:Hid (w1.cell? ⟨B,5,none⟩=some (.int .u32 (ch:Int))):=aa (by
  rw[aD 5,mG,agG,agv (by rw[B8_length,nM];exact af2 _),B8_length,nM];rfl)
 have xZ:=aa (fun W=>Dc ch IM W);obtain⟨C4,Ta⟩:=ab (fF ch);rw[←Ta] at xZ;have nj:Hid (C4.length=4):=aa (by rw[Ta];rfl);have nx:=aa nM;have j9:=aa db;have MB:=aa uQ;obtain⟨L4,Tb⟩:=ab (fF hd);have HRe:Hid (R=fK (checked (((((L4++[dp])++fg)++C4)++cn)++da))):=aa (by rw[HR.out,eO,fV,Tb,MA,hp,Cs,Dk,Ta,we,om,uF];simp);have nG:Hid (L4.length=4):=aa (by rw[Tb];rfl);rw[←hp];have VB:hd<4294967296:=by rw[MA];unfold eb;split<;>decide
 have HF:=aa (fun W=>Dc hd VB W);rw[←Tb] at HF;clear hp Cs aD Tb VB Dk we om uF Ta nM db uQ mG rO IM HR oX
 cases p
 all_goals
  have KF:=MA;unfold eb at KF;simp only[if_true,if_false,Bool.false_eq_true] at KF;subst KF;clear MA;go_wp2_with fail;apply Yo (fun _ _ v wE=>Ow wE w1.heap.size 5 v (B8 (L4++[dp]))∧Below w1.heap.size w1 wE)
  · intro hT
    refine dH _ 5 _ bW (by kernel_rfl) (by intro c a d v w h;cases d<;>exact h) (dG (aw _ (by intro c a d v w h;cases d<;>exact h)) (by kernel_rfl) 4 [(0,0),(2,0),(3,1)] _ (by kernel_rfl) (dE (aw _ (by intro c a d v w h;cases d<;>exact h)) 1 4 3 _ (by kernel_rfl) (bN (aw _ (by intro c a d v w h;cases d<;>exact h)) (by kernel_rfl) [(4,2),(5,2),(6,2)] _ (by kernel_rfl)) (bN (aw _ (by intro c a d v w h;cases d<;>exact h)) (by kernel_rfl) [(1,2),(5,2),(6,2)] _ (by kernel_rfl)))) ?_
    repeat ((first|refine ag rfl fun K hK=>?_|refine af rfl fun K hK=>?_);go_simp;(first|refine hK _ ?_|(simp only[IntWalk.iteOmega];go_simp;refine hK _ ?_)|(go_bits;go_simp;refine hK _ ?_));clear hK K;try go_bits)
    refine dI rfl rfl rfl rfl (fun K hK=>?_) (fun K hK=>?_)
    · go_wp2_with fail
      refine(HF.out _).mono ?_;rintro e w2 ⟨v,rfl,ho,hb⟩;have u6:Below w1.heap.size w1 w2:=(af5 _ w1).drew.trans hb;have hob:Ow w2 w1.heap.size 5 v (B8 L4):=ho;go_wp2_with fail;refine⟨aj hb,?_⟩;refine ae rfl rfl (fun K hK=>?_);go_wp2_with fail;obtain⟨wN,dL⟩:=ab (w2.alloc (.cells #[.int .u8 (dp.toNat:Int)] 5))
      obtain⟨gN,ki⟩:=ab w2.heap.size;refine⟨.inr (aW _ _),?_⟩;rw[←dL,←ki];have kN:Below w1.heap.size w1 wN:=by rw[dL];exact u6.alloc u6.size _
      have hoN:Ow wN w1.heap.size 5 v (B8 L4):=by rw[dL];exact hob.alloc _
      have hsN:Sl wN (gN+1) (some ⟨gN,0,none⟩) [.int .u8 (dp.toNat:Int)]:=by rw[dL,ki];exact Sl.one w2 _ _
      have hrN:∀r,az v=some r→w1.heap.size≤r:=fun r hr=>(ho.row r hr).1
      clear dL ki hob hb u6 ho;refine ae rfl rfl (fun K hK=>?_);refine bn (m:=1) (c:=1) (base:=w1.heap.size) (xs:=B8 L4) (v:=v) (A:=some ⟨gN,0,none⟩) (B:=gN+1) (news:=[.int .u8 (dp.toNat:Int)]) jf (.tmp 8) (.tmp 11) rfl rfl hoN rfl hsN rfl (by simp;rfl) (by rw[B8_length,nG.out];simp[maxLen]) (by rw[B8_length,nG.out];decide) kN.size ?_;intro v3 w3 cZ fl j0;rw[dD L4 _ dp rfl] at cZ;have bd:Below w1.heap.size w1 w3:=kN.grown fl kN.size hrN;refine(show K (Act.put _ (some 12) v3) w3 from ?_)
      conv in (Act.put _ (some 12) v3)=>simp[Act.put]
      refine hK _ _ ⟨.inl (by decide),?_⟩;clear hK K;refine ae rfl rfl (fun K hK=>?_);refine Go.BigFrame.wp_assign (.tmp 12) rfl ?_;refine(show K (Act.put _ (some 4) v3) w3 from ?_)
      conv in (Act.put _ (some 4) v3)=>simp[Act.put]
      refine hK _ _ ⟨.inl (by decide),?_⟩;clear hK K;refine ak ?_;exact hT v gN v3 w3 ⟨cZ,bd⟩
    go_wp2_with fail;refine⟨aW _ _,?_⟩;obtain⟨wM,hwM⟩:∃wM,wM=(w1.alloc (.cells #[.int .u8 (dp.toNat:Int)] 5)).drew:=⟨_,rfl⟩
    obtain⟨gN,ki⟩:=ab w1.heap.size;rw[←hwM,←ki];have hbM:Below w1.heap.size w1 wM:=by rw[hwM];exact((af5 _ w1).alloc (af2 _) _).drew
    have hsM:Sl wM (gN+1) (some ⟨gN,0,none⟩) [.int .u8 (dp.toNat:Int)]:=by rw[hwM,ki];exact(Sl.one w1 _ _).drew
    have hzM:gN+1≤wM.heap.size:=by rw[hwM,ki];show _≤(World.alloc _ _).heap.size;rw[agn];exact af2 _
    clear hwM ki;refine ae rfl rfl (fun K hK=>?_);go_wp2_with fail;refine(HF.out _).mono ?_;rintro e wN ⟨v,rfl,ho,hb⟩;have kN:Below w1.heap.size w1 wN:=hbM.trans (hb.mono hbM.size);have hoN:Ow wN w1.heap.size 5 v (B8 L4):=ho.mono hbM.size;have hsN:Sl wN (gN+1) (some ⟨gN,0,none⟩) [.int .u8 (dp.toNat:Int)]:=hsM.below (hb.mono hzM);have hrN:∀r,az v=some r→w1.heap.size≤r:=fun r hr=>agx hbM.size (ho.row r hr).1
    go_wp2_with fail;refine⟨.inr (aj hb),?_⟩;clear hb hbM hsM hzM ho;refine ae rfl rfl (fun K hK=>?_);refine bn (m:=1) (c:=1) (base:=w1.heap.size) (xs:=B8 L4) (v:=v) (A:=some ⟨gN,0,none⟩) (B:=gN+1) (news:=[.int .u8 (dp.toNat:Int)]) jf (.tmp 8) (.tmp 11) rfl rfl hoN rfl hsN rfl (by simp;rfl) (by rw[B8_length,nG.out];simp[maxLen]) (by rw[B8_length,nG.out];decide) kN.size ?_;intro v3 w3 cZ fl j0;rw[dD L4 _ dp rfl] at cZ;have bd:Below w1.heap.size w1 w3:=kN.grown fl kN.size hrN;refine(show K (Act.put _ (some 12) v3) w3 from ?_)
    conv in (Act.put _ (some 12) v3)=>simp[Act.put]
    refine hK _ _ ⟨.inl (by decide),?_⟩;clear hK K;refine ae rfl rfl (fun K hK=>?_);refine Go.BigFrame.wp_assign (.tmp 12) rfl ?_;refine(show K (Act.put _ (some 4) v3) w3 from ?_)
    conv in (Act.put _ (some 4) v3)=>simp[Act.put]
    refine hK _ _ ⟨.inl (by decide),?_⟩;clear hK K;refine ak ?_;exact hT v gN v3 w3 ⟨cZ,bd⟩
  rintro u g v wE ⟨ho,CL⟩;clear HF;go_wp2_with fail;refine bw (Below w1.heap.size w1) [(0,0),(1,0),(2,0),(4,0),(5,1),(8,0),(9,0),(3,2),(6,2),(7,2),(10,2),(11,2)] bW (by kernel_rfl) (by intro c a d v w h;cases d<;>exact h) CL.drew ?_
  repeat (refine ax (by decide) rfl fun K hK=>?_;go_simp;(first|refine hK _ ?_|(simp only[IntWalk.iteOmega];go_simp;refine hK _ ?_)|(go_bits;go_simp;refine hK _ ?_));clear hK K;try go_bits)
  refine aO (.int .u32 (ch:Int)) (by decide) rfl rfl (fun W hW=>?_) ?_
  · have hcW:W.cell? ⟨B,5,none⟩=some (.int .u32 (ch:Int)):=(hW.cell (p:=⟨B,5,none⟩) yi).trans C5.out
    clear ho CL;go_simp
  refine(show aY _ _ _ _ _ _ (Act.put _ (some 18) _) _ from ?_)
  conv in (Act.put _ (some 18) _)=>simp[Act.put]
  repeat (refine ax (by decide) rfl fun K hK=>?_;go_simp;(first|refine hK _ ?_|(simp only[IntWalk.iteOmega];go_simp;refine hK _ ?_)|(go_bits;go_simp;refine hK _ ?_));clear hK K;try go_bits)
  obtain⟨wD,hwD⟩:=ab wE.drew;rw[←hwD];have OD:Below w1.heap.size w1 wD:=by rw[hwD];exact CL.drew
  have hoD:Ow wD w1.heap.size 5 v (B8 (L4++[dp])):=by rw[hwD];exact ho.drew
  clear hwD ho CL;refine bz rfl rfl (fun K hK=>?_);refine bn (m:=4) (c:=4) (base:=w1.heap.size) (xs:=B8 (L4++[dp])) (v:=v) (A:=some ⟨B,1,none⟩) (B:=wD.heap.size) (news:=B8 fg) jf (.tmp 13) (.tmp 15) rfl rfl hoD rfl ((Sf.out.below OD).mono OD.size) (by rw[B8_length];exact nx.out) (aG _) (by simp only[B8_length,agc,agk,nG.out,nx.out,nj.out,j9.out];simp[maxLen]) (by simp only[B8_length,agc,agk,nG.out,nx.out,nj.out,j9.out];decide) OD.size ?_;intro v5 w5 nO Rz Aa;rw[←bu] at nO;have jT:Below w1.heap.size w1 w5:=OD.grown Rz OD.size (fun r hr=>(hoD.row r hr).1);refine(show K (Act.put _ (some 16) v5) w5 from ?_)
  conv in (Act.put _ (some 16) v5)=>simp[Act.put]
  refine hK _ _ ⟨jT,?_⟩;clear hK K;refine bz rfl rfl (fun K hK=>?_);go_wp2_with fail;refine(xZ.out _).mono ?_;rintro e w6 ⟨v6,rfl,pI,fv⟩;have Ks:Below w1.heap.size w1 w6:=jT.trans (fv.mono jT.size);have aa8:Ow w6 w1.heap.size 5 v5 (B8 (L4++[dp]++fg)):=nO.below fv (af2 _);obtain⟨A6,c6,rfl,hA6,aa9⟩:=aH pI;rw[nj.out] at pI⊢;go_wp2_with fail;refine⟨Ks,?_⟩;refine bz rfl rfl (fun K hK=>?_);refine bn (m:=4) (c:=c6) (base:=w1.heap.size) (xs:=B8 (L4++[dp]++fg)) (v:=v5) (A:=A6) (B:=w6.heap.size) (news:=B8 C4) jf (.tmp 16) (.tmp 19) rfl rfl aa8 rfl pI.sl (by rw[B8_length];exact nj.out) (aG _) (by simp only[B8_length,agc,agk,nG.out,nx.out,nj.out,j9.out];simp[maxLen]) (by simp only[B8_length,agc,agk,nG.out,nx.out,nj.out,j9.out];decide) Ks.size ?_;intro v7 w7 AL Yp hr7;rw[←bu] at AL;have Db:Below w1.heap.size w1 w7:=Ks.grown Yp Ks.size (fun r hr=>(aa8.row r hr).1);refine(show K (Act.put _ (some 20) v7) w7 from ?_)
  conv in (Act.put _ (some 20) v7)=>simp[Act.put]
  refine hK _ _ ⟨Db,?_⟩;clear hK K;refine bz rfl rfl (fun K hK=>?_);refine bn (m:=32) (c:=32) (base:=w1.heap.size) (xs:=B8 (L4++[dp]++fg++C4)) (v:=v7) (A:=some ⟨B,6,none⟩) (B:=w7.heap.size) (news:=B8 cn) jf (.tmp 20) (.tmp 22) rfl rfl AL rfl ((Sc.out.below Db).mono Db.size) (by rw[B8_length];exact j9.out) (aG _) (by simp only[B8_length,agc,agk,nG.out,nx.out,nj.out,j9.out];simp[maxLen]) (by simp only[B8_length,agc,agk,nG.out,nx.out,nj.out,j9.out];decide) Db.size ?_;intro v8 w8 Dl OE Vp;rw[←bu] at Dl;have kS:Below w1.heap.size w1 w8:=Db.grown OE Db.size (fun r hr=>(AL.row r hr).1);refine(show K (Act.put _ (some 23) v8) w8 from ?_)
  conv in (Act.put _ (some 23) v8)=>simp[Act.put]
  refine hK _ _ ⟨kS,?_⟩;clear hK K;refine bz rfl rfl (fun K hK=>?_);refine Go.BigFrame.wp_assign (.tmp 23) rfl ?_;refine(show K (Act.put _ (some 4) v8) w8 from ?_)
  conv in (Act.put _ (some 4) v8)=>simp[Act.put]
  refine hK _ _ ⟨kS,?_⟩;clear hK K;refine cH ?_;have aba:=(Sd.out.below kS).mono kS.size;go_wp2_with (at_builtin;go_loud (refine aq (m:=33) (c:=33) (base:=w1.heap.size) (xs:=B8 (L4++[dp]++fg++C4++cn)) (v:=v8) (A:=some ⟨B,38,none⟩) (B:=w8.heap.size) (news:=B8 da) jf rfl (.tmp 24) (.tmp 26) rfl rfl Dl rfl aba (by rw[B8_length];exact MB.out) (aG _) (by simp only[B8_length,agc,agk,nG.out,nx.out,nj.out,j9.out];simp[maxLen]) (by simp only[B8_length,agc,agk,nG.out,nx.out,nj.out,j9.out];decide) kS.size ?_);intro v9 w9 pJ OF hr9);rw[←bu] at pJ;have abb:Below w1.heap.size w1 w9:=kS.grown OF kS.size (fun r hr=>(Dl.row r hr).1);have wg:(L4++[dp]++fg++C4++cn++da).length=78:=by simp only[agc,agk,nG.out,nx.out,nj.out,j9.out,MB.out]
  obtain⟨A9,c9,rfl,hA9,OG⟩:=aH pJ;have eX:=Df A9 c9 _ w9 pJ.sl (by rw[wg];omega) hA9 OG;rw[wg] at eX⊢;rw[←HRe.out] at eX;refine eX.mono ?_;rintro e wm ⟨rfl,ta⟩;have iQ:Below B w wm:=dy.trans ((abb.trans (ta.mono abb.size)).mono (Nat.le_of_lt yi));clear eX ta pJ OF hr9 wg aba;go_wp2_with fail;go_ret;exact⟨rfl,by rw[←HB.out];exact iQ⟩
end Go.Proofs.YtcjioogololnoaaGreatDoor
