/- Of any text: the program's descriptors and the reference's are read and written alike (DescParses). No condition. -/
import Derived.Test.YtcjioogololnoaaGreatDoorU1
import Derived.Test.YtcjioogololnoaaGreatDoorU11
import Derived.Test.YtcjioogololnoaaGreatDoorU9
set_option maxRecDepth 1000000
set_option maxHeartbeats 16000000
set_option linter.unusedVariables false
set_option linter.unusedSimpArgs false
namespace Go.Proofs.YtcjioogololnoaaGreatDoor
open Go.RowKit Go.Shelf
def dP:List Nat:=[4294968273,0,0]
def dN:List Nat:=[4624529908474429119,4994812053365940164,1]
set_option exponentiation.threshold 1000 in
theorem rA:uZ al dP:=⟨rfl,by simp[dP],by decide+kernel,by decide+kernel,by decide+kernel⟩
set_option exponentiation.threshold 1000 in
theorem dM:al<2^256:=by decide+kernel
set_option exponentiation.threshold 1000 in
theorem Kq:fE<2^256:=by decide+kernel
def AG:Array Value:=#[.int .u64 18446744069414583343,.int .u64 18446744073709551615,.int .u64 18446744073709551615,.int .u64 18446744073709551615,.int .u64 4294968273,.int .u64 0,.int .u64 0]
def AH:Array Value:=#[.int .u64 13822214165235122497,.int .u64 13451932020343611451,.int .u64 18446744073709551614,.int .u64 18446744073709551615,.int .u64 4624529908474429119,.int .u64 4994812053365940164,.int .u64 1]
def AI:Array Value:=#[.int .u64 18446744069414583343,.int .u64 18446744073709551615,.int .u64 18446744073709551615,.int .u64 18446744073709551615,.int .u64 4294968273,.int .u64 0,.int .u64 0,
 .int .u64 13822214165235122497,.int .u64 13451932020343611451,.int .u64 18446744073709551614,.int .u64 18446744073709551615,.int .u64 4624529908474429119,.int .u64 4994812053365940164,.int .u64 1]
theorem Fm (w:World):Calls Tryz.prog 136 #[] w fun e W'=>e=.returned (.agg AG)∧Below w.heap.size w W':=by
 go_enter Tryz.func136,Tryz.ntmps136;go_wp2_with fail;refine agf (v:=.agg AG) ?_ rfl ⟨rfl,(af5 _ w).alloc (af2 _) _⟩;exact ags rfl _ _ w.heap.size 183 AG (0,0) _ rfl (af4 w _) Tryz.underlying183 rfl (by kernel_rfl)
theorem Fo (w:World):Calls Tryz.prog 137 #[] w fun e W'=>e=.returned (.agg AH)∧Below w.heap.size w W':=by
 go_enter Tryz.func137,Tryz.ntmps137;go_wp2_with fail;refine agf (v:=.agg AH) ?_ rfl ⟨rfl,(af5 _ w).alloc (af2 _) _⟩;exact ags rfl _ _ w.heap.size 183 AH (0,0) _ rfl (af4 w _) Tryz.underlying183 rfl (by kernel_rfl)
theorem XT {w:World} {g t:Nat} {fr:Nat×Nat} (h:w.heap[g]?=some (.cells AI t fr)):FieldAt w g 0 al dP∧FieldAt w g 7 fE dN:=by
 have hl:=(af3.1 h).1;refine⟨⟨hl,fun j hj=>?_,fun j hj=>?_⟩,⟨hl,fun j hj=>?_,fun j hj=>?_⟩⟩
 · rw[agb _ _ _ _ _ _ h]
   rcases (show j=0∨j=1∨j=2∨j=3 by omega) with rfl|rfl|rfl|rfl<;>kernel_rfl
 · rw[agb _ _ _ _ _ _ h]
   have hj:j<3:=hj;rcases (show j=0∨j=1∨j=2 by omega) with rfl|rfl|rfl<;>rfl
 · rw[agb _ _ _ _ _ _ h]
   rcases (show j=0∨j=1∨j=2∨j=3 by omega) with rfl|rfl|rfl|rfl<;>kernel_rfl
 rw[agb _ _ _ _ _ _ h];have hj:j<3:=hj;rcases (show j=0∨j=1∨j=2 by omega) with rfl|rfl|rfl<;>rfl
theorem sR (w:World):Calls Tryz.prog 97 #[] w fun e W'=>∃g,e=.returned (.pointer (some ⟨g,0,none⟩))∧w.heap.size≤g∧FieldAt W' g 0 al dP∧FieldAt W' g 7 fE dN∧Below w.heap.size w W':=by
 go_enter Tryz.func97,Tryz.ntmps97;go_wp2_with fail;refine(Fm _).mono ?_;rintro e w1 ⟨rfl,aZ⟩;go_wp2_with fail;refine(Fo _).mono ?_;rintro e w2 ⟨rfl,bt⟩;have hb:=aZ.trans (bt.mono aZ.size);clear aZ bt;unfold AG AH;go_wp2_with (refine wpList_boxTo rfl 186 (.tmp 3) rfl _ rfl w2.heap.size rfl AI rfl ?_);have hF:=XT (af4 w2 (.cells AI 186));obtain⟨W,hW⟩:=ab (w2.alloc (.cells AI 186));have qw:Below w.heap.size w W:=by rw[hW];exact hb.alloc hb.size _
 refine(show W=_ from hW)▸?_;rw[←hW] at hF;go_ret;exact⟨_,rfl,hb.size,hF.1,hF.2,qw⟩
theorem IE (F:Nat→World→Prop) {G:Prop} {T:Nat→World→Prop} (h2:(∀g w,F g w→T g w)→G) (h1:∀g w,F g w→T g w):G:=h2 h1
theorem oZ:1<al:=by decide+kernel
set_option exponentiation.threshold 1000 in
theorem Kr:2^255<al:=by decide+kernel
def Fp (x v:Nat):Array Value:=#[.int .u64 (dw x 0:Nat),.int .u64 (dw x 1:Nat),.int .u64 (dw x 2:Nat),.int .u64 (dw x 3:Nat),.int .u64 (dw v 0:Nat),.int .u64 (dw v 1:Nat),.int .u64 (dw v 2:Nat),.int .u64 (dw v 3:Nat),.int .u64 1,.int .u64 0,.int .u64 0,.int .u64 0]
def IF:Array Value:=#[.int .u64 0,.int .u64 0,.int .u64 0,.int .u64 0,.int .u64 0,.int .u64 0,.int .u64 0,.int .u64 0,.int .u64 0,.int .u64 0,.int .u64 0,.int .u64 0]
theorem rC (x v:Nat):(Fp x v).all (·.oneCell')=true:=rp [dw x 0,dw x 1,dw x 2,dw x 3,dw v 0,dw v 1,dw v 2,dw v 3,1,0,0,0]
theorem o6:IF.all (·.oneCell')=true:=rp [0,0,0,0,0,0,0,0,0,0,0,0]
set_option exponentiation.threshold 1000 in
theorem Oj (g:Nat) (x odd:Nat) (hx:x<al) (w:World) (hF:FieldAt w g 0 al dP):
 Calls Tryz.prog 140 #[.pointer (some ⟨g,0,none⟩),.agg (ar x),.int .u64 odd] w fun e W'=>∃pt:Array Value,e=.returned (.tuple #[.agg pt,.bool (eL x)])∧pt.size=12∧pt.all (·.oneCell')=true∧Below w.heap.size w W':=by
 have bW:Tryz.prog.follows .mixedOrders=true:=by kernel_rfl
 have pq:=hF.1;have tN:x<2^256:=Nat.lt_trans hx dM;unfold ar;go_enter Tryz.func140,Tryz.ntmps140;go_wp2_with fail;have h2:=iV w (.cells (ar x) 140) (.cells #[.int .u64 0,.int .u64 0,.int .u64 0,.int .u64 0,.int .u64 0,.int .u64 0,.int .u64 0,.int .u64 0,.int .u64 0,.int .u64 0,.int .u64 0,.int .u64 0] 142)
 obtain⟨W0,aM⟩:∃W0,W0=(w.alloc (.cells (ar x) 140)).alloc (.cells #[.int .u64 0,.int .u64 0,.int .u64 0,.int .u64 0,.int .u64 0,.int .u64 0,.int .u64 0,.int .u64 0,.int .u64 0,.int .u64 0,.int .u64 0,.int .u64 0] 142):=⟨_,rfl⟩
 have bL:Below w.heap.size w W0:=by rw[aM];exact((af5 _ w).alloc (af2 _) _).alloc (by simp) _
 have iC:W0.heap.size=w.heap.size+2:=by rw[aM];simp
 refine(show W0=_ from aM)▸?_;rw[←aM] at h2;obtain⟨gX,gR⟩:=h2;obtain⟨B,hB⟩:=ab w.heap.size;rw[←hB] at gX gR iC⊢;have HB:=aa hB;have kM:=aa iC;have Ey:=hF.below bL pq;have AJ:=aa Ey;clear aM hB iC Ey hF;obtain⟨x0,x1,x2,x3⟩:=jq gX;have GX:=aa gX;have GR:=aa gR;clear gX gR;have Rt:g<W0.heap.size:=by have:=kM.out;have:=HB.out;omega
 obtain⟨a1,BS⟩:∃a,a=x*x%al:=⟨_,rfl⟩;obtain⟨a2,C7⟩:∃a,a=a1*x%al:=⟨_,rfl⟩;obtain⟨s7,Mu⟩:∃a,a=(a2+7)%al:=⟨_,rfl⟩;have qx:0<al:=Nat.lt_trans Nat.one_pos oZ;have la1:a1<al:=by rw[BS];exact Nat.mod_lt _ qx
 have la2:a2<al:=by rw[C7];exact Nat.mod_lt _ qx
 have ls7:s7<al:=by rw[Mu];exact Nat.mod_lt _ qx
 have Fq:Hid (∀X,Below W0.heap.size W0 X→Calls Tryz.prog 175 #[.pointer (some ⟨g,0,none⟩),.agg (ar x),.agg (ar x)] X fun e W'=>e=.returned (.agg (ar a1))∧Below X.heap.size X W'):=
  aa fun X hX=>by rw[BS];exact l8 g 0 al dP rA dM x x tN tN X (AJ.out.below hX Rt)
 have sS:Hid (∀X,Below W0.heap.size W0 X→Calls Tryz.prog 175 #[.pointer (some ⟨g,0,none⟩),.agg (ar a1),.agg (ar x)] X fun e W'=>e=.returned (.agg (ar a2))∧Below X.heap.size X W'):=
  aa fun X hX=>by rw[C7];exact l8 g 0 al dP rA dM a1 x (Nat.lt_trans la1 dM) tN X (AJ.out.below hX Rt)
 have Fs:Hid (∀X,Below W0.heap.size W0 X→Calls Tryz.prog 174 #[.pointer (some ⟨g,0,none⟩),.agg (ar a2),.agg #[.int .u64 7,.int .u64 0,.int .u64 0,.int .u64 0]] X fun e W'=>e=.returned (.agg (ar s7))∧Below X.heap.size X W'):=
  aa fun X hX=>by rw[Mu];exact N3 g 0 al dP a2 7 la2 (by decide+kernel) dM Kr X (AJ.out.below hX Rt)
 have Hs7:Hid (s7=uY x):=aa (by rw[Mu,C7,BS];rfl);have Ls7:=aa ls7;clear BS C7 Mu la1 la2 ls7 qx;have u6:Below W0.heap.size W0 W0.drew:=(af5 _ _).drew;apply IE (fun gN wE=>W0.heap.size≤gN∧wE.heap[gN]?=some (.cells (ar s7) 140 (0,0))∧Below W0.heap.size W0 wE)
 · intro hT
   refine dH _ 11 _ bW (by kernel_rfl) (by intro c a d v w h;cases d<;>exact h) (dG (aw _ (by intro c a d v w h;cases d<;>exact h)) (by kernel_rfl) 5 [(0,0),(1,0),(2,0),(3,1),(4,1),(6,1),(8,0)] _ (by kernel_rfl) (dE (aw _ (by intro c a d v w h;cases d<;>exact h)) 5 10 4 _ (by kernel_rfl) (dG (aw _ (by intro c a d v w h;cases d<;>exact h)) (by kernel_rfl) 4 [] _ (by kernel_rfl) (dE (aw _ (by intro c a d v w h;cases d<;>exact h)) 7 10 3 _ (by kernel_rfl) (dG (aw _ (by intro c a d v w h;cases d<;>exact h)) (by kernel_rfl) 3 [] _ (by kernel_rfl) (dE (aw _ (by intro c a d v w h;cases d<;>exact h)) 9 10 2 _ (by kernel_rfl) (bN (aw _ (by intro c a d v w h;cases d<;>exact h)) (by kernel_rfl) [(10,2),(11,2)] _ (by kernel_rfl)) (bN (aw _ (by intro c a d v w h;cases d<;>exact h)) (by kernel_rfl) [(9,2),(11,2)] _ (by kernel_rfl)))) (bN (aw _ (by intro c a d v w h;cases d<;>exact h)) (by kernel_rfl) [(7,2),(9,2),(11,2)] _ (by kernel_rfl)))) (bN (aw _ (by intro c a d v w h;cases d<;>exact h)) (by kernel_rfl) [(5,2),(7,2),(9,2),(11,2)] _ (by kernel_rfl)))) ?_
   repeat ((first|refine ag rfl fun K hK=>?_|refine af rfl fun K hK=>?_);go_simp;(first|refine hK _ ?_|(simp only[IntWalk.iteOmega];go_simp;refine hK _ ?_)|(go_bits;go_simp;refine hK _ ?_));clear hK K;try go_bits)
   refine dI rfl rfl rfl rfl (fun K hK=>?_) (fun K hK=>?_)
   · go_wp2_with fail
     refine(Fq.out _ u6).mono ?_;rintro e w1 ⟨rfl,uC⟩;have dy:Below W0.heap.size W0 w1:=u6.trans (uC.mono u6.size);go_wp2_with fail;refine⟨(aj uC),?_⟩;refine dI rfl rfl rfl rfl (fun K hK=>?_) (fun K hK=>?_)
     · go_wp2_with fail
       refine(sS.out _ dy).mono ?_;rintro e w2 ⟨rfl,l9⟩;have dZ:Below W0.heap.size W0 w2:=dy.trans (l9.mono dy.size);go_wp2_with fail;refine⟨(aj l9),?_⟩;refine dI rfl rfl rfl rfl (fun K hK=>?_) (fun K hK=>?_)
       · go_wp2_with fail
         refine(Fs.out _ dZ).mono ?_;rintro e w3 ⟨rfl,AK⟩;have de:Below W0.heap.size W0 w3:=dZ.trans (AK.mono dZ.size);go_wp2_with fail;refine⟨(aj AK),?_⟩;refine ae rfl rfl (fun K hK=>?_);go_wp2_with fail;refine⟨.inr (aW _ _),?_⟩;obtain⟨wN,dL⟩:∃Y,Y=w3.alloc (.cells #[.int .u64 0,.int .u64 0,.int .u64 0,.int .u64 0] 140):=⟨_,rfl⟩
         rw[←dL];have nZ:Below W0.heap.size W0 wN:=by rw[dL];exact de.alloc de.size _
         have mO:wN.heap[w3.heap.size]?=some (.cells (ar 0) 140 (0,0)):=by rw[dL];exact af4 w3 _
         have nF:W0.heap.size≤w3.heap.size:=de.size;clear dL;refine ae rfl rfl (fun K hK=>?_);refine agC 140 (.tmp 9) (.tmp 25) rfl w3.heap.size (ar s7) rfl rfl 140 _ mO (by kernel_rfl) rfl (aN _) ?_;refine hK _ _ ⟨.inl (by decide),?_⟩;clear hK K;refine ak ?_;obtain⟨wE,fR⟩:=ab (wN.setRow w3.heap.size (ar s7));obtain⟨gE,gV⟩:=ab w3.heap.size;rw[←fR,←gV];have hf:W0.heap.size≤gE∧wE.heap[gE]?=some (.cells (ar s7) 140 (0,0))∧Below W0.heap.size W0 wE:=⟨by rw[gV];exact nF,by rw[fR,gV];exact agd _ _ _ _ _ _ mO,by rw[fR];exact ah nZ nF _⟩;clear fR gV;exact hT gE wE hf
       go_wp2_with fail;refine⟨(aW _ _),?_⟩;obtain⟨C8,iX⟩:∃Y,Y=w2.alloc (.cells #[.int .u64 0,.int .u64 0,.int .u64 0,.int .u64 0] 140):=⟨_,rfl⟩
       rw[←iX];have fS:Below W0.heap.size W0 C8:=by rw[iX];exact dZ.alloc dZ.size _
       have jI:C8.heap[w2.heap.size]?=some (.cells (ar 0) 140 (0,0)):=by rw[iX];exact af4 w2 _
       have nF:W0.heap.size≤w2.heap.size:=dZ.size;clear iX;refine ae rfl rfl (fun K hK=>?_);go_wp2_with fail;refine(Fs.out _ fS).mono ?_;rintro e C9 ⟨rfl,fT⟩;have n5:Below W0.heap.size W0 C9:=fS.trans (fT.mono fS.size);have jJ:=(fT.block _ (af3.1 jI).1).trans jI;go_wp2_with fail;refine⟨.inr (aj fT),?_⟩;refine ae rfl rfl (fun K hK=>?_);refine agC 140 (.tmp 9) (.tmp 25) rfl w2.heap.size (ar s7) rfl rfl 140 _ jJ (by kernel_rfl) rfl (aN _) ?_;refine hK _ _ ⟨.inl (by decide),?_⟩;clear hK K;refine ak ?_;obtain⟨wE,fR⟩:=ab (C9.setRow w2.heap.size (ar s7));obtain⟨gE,gV⟩:=ab w2.heap.size;rw[←fR,←gV];have hf:W0.heap.size≤gE∧wE.heap[gE]?=some (.cells (ar s7) 140 (0,0))∧Below W0.heap.size W0 wE:=⟨by rw[gV];exact nF,by rw[fR,gV];exact agd _ _ _ _ _ _ jJ,by rw[fR];exact ah n5 nF _⟩;clear fR gV;exact hT gE wE hf
     go_wp2_with fail;refine⟨(aW _ _),?_⟩;obtain⟨C8,iX⟩:∃Y,Y=w1.alloc (.cells #[.int .u64 0,.int .u64 0,.int .u64 0,.int .u64 0] 140):=⟨_,rfl⟩
     rw[←iX];have fS:Below W0.heap.size W0 C8:=by rw[iX];exact dy.alloc dy.size _
     have jI:C8.heap[w1.heap.size]?=some (.cells (ar 0) 140 (0,0)):=by rw[iX];exact af4 w1 _
     have nF:W0.heap.size≤w1.heap.size:=dy.size;clear iX;refine ae rfl rfl (fun K hK=>?_);go_wp2_with fail;refine(sS.out _ fS).mono ?_;rintro e XU ⟨rfl,kp⟩;have kq:Below W0.heap.size W0 XU:=fS.trans (kp.mono fS.size);have n7:=(kp.block _ (af3.1 jI).1).trans jI;go_wp2_with fail;refine⟨.inr (aj kp),?_⟩;refine ae rfl rfl (fun K hK=>?_);go_wp2_with fail;refine(Fs.out _ kq).mono ?_;rintro e C9 ⟨rfl,fT⟩;have n5:Below W0.heap.size W0 C9:=kq.trans (fT.mono kq.size);have jJ:=(fT.block _ (af3.1 n7).1).trans n7;go_wp2_with fail;refine⟨.inr (aj fT),?_⟩;refine ae rfl rfl (fun K hK=>?_);refine agC 140 (.tmp 9) (.tmp 25) rfl w1.heap.size (ar s7) rfl rfl 140 _ jJ (by kernel_rfl) rfl (aN _) ?_;refine hK _ _ ⟨.inl (by decide),?_⟩;clear hK K;refine ak ?_;obtain⟨wE,fR⟩:=ab (C9.setRow w1.heap.size (ar s7));obtain⟨gE,gV⟩:=ab w1.heap.size;rw[←fR,←gV];have hf:W0.heap.size≤gE∧wE.heap[gE]?=some (.cells (ar s7) 140 (0,0))∧Below W0.heap.size W0 wE:=⟨by rw[gV];exact nF,by rw[fR,gV];exact agd _ _ _ _ _ _ jJ,by rw[fR];exact ah n5 nF _⟩;clear fR gV;exact hT gE wE hf
   go_wp2_with fail;refine⟨(aW _ _),?_⟩;obtain⟨C8,iX⟩:∃Y,Y=(W0.alloc (.cells #[.int .u64 0,.int .u64 0,.int .u64 0,.int .u64 0] 140)).drew:=⟨_,rfl⟩
   rw[←iX];have fS:Below W0.heap.size W0 C8:=by rw[iX];exact((af5 _ W0).alloc (af2 _) _).drew
   have jI:C8.heap[W0.heap.size]?=some (.cells (ar 0) 140 (0,0)):=by rw[iX];exact af4 W0 _
   have nF:W0.heap.size≤W0.heap.size:=af2 _;clear iX;refine ae rfl rfl (fun K hK=>?_);go_wp2_with fail;refine(Fq.out _ fS).mono ?_;rintro e wN1 ⟨rfl,vO⟩;have vP:Below W0.heap.size W0 wN1:=fS.trans (vO.mono fS.size);have Da:=(vO.block _ (af3.1 jI).1).trans jI;go_wp2_with fail;refine⟨.inr (aj vO),?_⟩;refine ae rfl rfl (fun K hK=>?_);go_wp2_with fail;refine(sS.out _ vP).mono ?_;rintro e XU ⟨rfl,kp⟩;have kq:Below W0.heap.size W0 XU:=vP.trans (kp.mono vP.size);have n7:=(kp.block _ (af3.1 Da).1).trans Da;go_wp2_with fail;refine⟨.inr (aj kp),?_⟩;refine ae rfl rfl (fun K hK=>?_);go_wp2_with fail;refine(Fs.out _ kq).mono ?_;rintro e C9 ⟨rfl,fT⟩;have n5:Below W0.heap.size W0 C9:=kq.trans (fT.mono kq.size);have jJ:=(fT.block _ (af3.1 n7).1).trans n7;go_wp2_with fail;refine⟨.inr (aj fT),?_⟩;refine ae rfl rfl (fun K hK=>?_);refine agC 140 (.tmp 9) (.tmp 25) rfl W0.heap.size (ar s7) rfl rfl 140 _ jJ (by kernel_rfl) rfl (aN _) ?_;refine hK _ _ ⟨.inl (by decide),?_⟩;clear hK K;refine ak ?_;obtain⟨wE,fR⟩:=ab (C9.setRow W0.heap.size (ar s7));obtain⟨gE,gV⟩:=ab W0.heap.size;rw[←fR,←gV];have hf:W0.heap.size≤gE∧wE.heap[gE]?=some (.cells (ar s7) 140 (0,0))∧Below W0.heap.size W0 wE:=⟨by rw[gV];exact nF,by rw[fR,gV];exact agd _ _ _ _ _ _ jJ,by rw[fR];exact ah n5 nF _⟩;clear fR gV;exact hT gE wE hf
 rintro gS W1 ⟨hgS,gS1,aZ⟩;clear x0 x1 x2 x3 Fq sS Fs;obtain⟨f0,f1,f2,f3⟩:=(AJ.out.below aZ Rt).m;obtain⟨r1,jQ⟩:∃r,r=(al+1)%2^256:=⟨_,rfl⟩
 have HP1:Hid (Calls Tryz.prog 176 #[.agg (ar al),.agg #[.int .u64 1,.int .u64 0,.int .u64 0,.int .u64 0]] W1 fun e W'=>e=.returned (.tuple #[.agg (ar r1),.int .u64 (((al+1)/2^256:Nat):Int)])∧Below W1.heap.size W1 W'):=
  aa (by rw[jQ];exact yV al 1 dM (by decide) W1)
 have Aj:=aa jQ;clear jQ;have GS:=aa gS1;have HlS:=aa (af3.1 gS1).1;clear gS1 hgS;go_wp2_with fail;refine HP1.out.mono ?_;rintro e w2 ⟨rfl,bt⟩;have XV:=aZ.trans (bt.mono aZ.size);have gS2:=(bt.block gS HlS.out).trans GS.out;have ac5:gS<w2.heap.size:=agq HlS.out bt.size;clear bt GS HlS HP1 f0 f1 f2 f3;go_wp2_with (refine af6 rfl 140 (.tmp 10) (.tmp 33) rfl w2.heap.size (ar r1) rfl rfl 140 _ (af4 w2 _) (by kernel_rfl) rfl (aN _) ?_;rw[agi];obtain⟨W3,iF⟩:=ab (w2.alloc (.cells (ar r1) 140));rw[←iF];obtain⟨gT,hgT⟩:=ab w2.heap.size;rw[←hgT];have gS3:W3.heap[gS]?=some (.cells (ar s7) 140 (0,0)):=(by rw[iF];exact eV gS2);have gT3:W3.heap[gT]?=some (.cells (ar r1) 140 (0,0)):=(by rw[iF,hgT];exact af4 w2 _);have bd:Below W0.heap.size W0 W3:=(by rw[iF];exact XV.alloc XV.size _);clear iF hgT XV gS2 ac5);obtain⟨h1,pC⟩:∃h,h=r1/2:=⟨_,rfl⟩;obtain⟨h2,hh2⟩:∃h,h=h1/2:=⟨_,rfl⟩;obtain⟨y,hy⟩:=ab (pw al s7 h2);have Vv:r1<2^256:=by rw[Aj.out];exact Nat.mod_lt _ (by decide)
 have fl:g<W3.heap.size:=agq Rt bd.size;have Ru:=aa (AJ.out.below bd Rt)
 have HN1:Hid (∀X,Below W3.heap.size W3 X→Calls Tryz.prog 178 #[.agg (ar r1),.int .u64 0] X fun e W'=>e=.returned (.agg (ar h1))∧Below X.heap.size X W'):=
  aa fun X hX=>by rw[pC];exact yZ r1 Vv X
 have Rv:Hid (∀X,Below W3.heap.size W3 X→Calls Tryz.prog 178 #[.agg (ar h1),.int .u64 0] X fun e W'=>e=.returned (.agg (ar h2))∧Below X.heap.size X W'):=
  aa fun X hX=>by rw[hh2];exact yZ h1 (by omega) X
 have HN3:Hid (∀X,Below W3.heap.size W3 X→Calls Tryz.prog 177 #[.pointer (some ⟨g,0,none⟩),.agg (ar s7),.agg (ar h2)] X fun e W'=>e=.returned (.agg (ar y))∧Below X.heap.size X W'):=
  aa fun X hX=>by rw[hy];exact Oh g 0 al dP rA dM oZ s7 h2 (Nat.lt_trans Ls7.out dM) X (Ru.out.below hX fl)
 have Hy:Hid (y=Iw x):=aa (by rw[hy,hh2,pC,Aj.out,Hs7.out];exact congrArg _ (by decide+kernel));have Ly:Hid (y<al):=aa (by rw[hy];exact Og al s7 h2 oZ 256);clear pC hh2 hy Vv;obtain⟨s0,s1,s2,s3⟩:=jq gS3;obtain⟨t0,t1,t2,t3⟩:=jq gT3;have HlS:=aa (af3.1 gS3).1;have GS:=aa gS3;clear gS3 gT3;have u6:Below W3.heap.size W3 W3.drew:=(af5 _ _).drew;apply IE (fun gN wE=>W3.heap.size≤gN∧wE.heap[gN]?=some (.cells (ar y) 140 (0,0))∧Below W3.heap.size W3 wE)
 · intro hT
   refine dH _ 7 _ bW (by kernel_rfl) (by intro c a d v w h;cases d<;>exact h) (dG (aw _ (by intro c a d v w h;cases d<;>exact h)) (by kernel_rfl) 5 [(0,0),(1,1),(2,1)] _ (by kernel_rfl) (dE (aw _ (by intro c a d v w h;cases d<;>exact h)) 3 6 4 _ (by kernel_rfl) (dG (aw _ (by intro c a d v w h;cases d<;>exact h)) (by kernel_rfl) 4 [] _ (by kernel_rfl) (dE (aw _ (by intro c a d v w h;cases d<;>exact h)) 4 6 3 _ (by kernel_rfl) (dG (aw _ (by intro c a d v w h;cases d<;>exact h)) (by kernel_rfl) 3 [] _ (by kernel_rfl) (dE (aw _ (by intro c a d v w h;cases d<;>exact h)) 5 6 2 _ (by kernel_rfl) (bN (aw _ (by intro c a d v w h;cases d<;>exact h)) (by kernel_rfl) [(6,2),(7,2)] _ (by kernel_rfl)) (bN (aw _ (by intro c a d v w h;cases d<;>exact h)) (by kernel_rfl) [(5,2),(7,2)] _ (by kernel_rfl)))) (bN (aw _ (by intro c a d v w h;cases d<;>exact h)) (by kernel_rfl) [(4,2),(5,2),(7,2)] _ (by kernel_rfl)))) (bN (aw _ (by intro c a d v w h;cases d<;>exact h)) (by kernel_rfl) [(3,2),(4,2),(5,2),(7,2)] _ (by kernel_rfl)))) ?_
   repeat ((first|refine ag rfl fun K hK=>?_|refine af rfl fun K hK=>?_);go_simp;(first|refine hK _ ?_|(simp only[IntWalk.iteOmega];go_simp;refine hK _ ?_)|(go_bits;go_simp;refine hK _ ?_));clear hK K;try go_bits)
   refine dI rfl rfl rfl rfl (fun K hK=>?_) (fun K hK=>?_)
   · go_wp2_with fail
     refine(HN1.out _ u6).mono ?_;rintro e w1 ⟨rfl,uC⟩;have dy:Below W3.heap.size W3 w1:=u6.trans (uC.mono u6.size);go_wp2_with fail;refine⟨(aj uC),?_⟩;refine dI rfl rfl rfl rfl (fun K hK=>?_) (fun K hK=>?_)
     · go_wp2_with fail
       refine(Rv.out _ dy).mono ?_;rintro e w2 ⟨rfl,l9⟩;have dZ:Below W3.heap.size W3 w2:=dy.trans (l9.mono dy.size);go_wp2_with fail;refine⟨(aj l9),?_⟩;refine dI rfl rfl rfl rfl (fun K hK=>?_) (fun K hK=>?_)
       · go_wp2_with fail
         refine(HN3.out _ dZ).mono ?_;rintro e w3 ⟨rfl,AK⟩;have de:Below W3.heap.size W3 w3:=dZ.trans (AK.mono dZ.size);go_wp2_with fail;refine⟨(aj AK),?_⟩;refine ae rfl rfl (fun K hK=>?_);go_wp2_with fail;refine⟨.inr (aW _ _),?_⟩;obtain⟨wN,dL⟩:∃Y,Y=w3.alloc (.cells #[.int .u64 0,.int .u64 0,.int .u64 0,.int .u64 0] 140):=⟨_,rfl⟩
         rw[←dL];have nZ:Below W3.heap.size W3 wN:=by rw[dL];exact de.alloc de.size _
         have mO:wN.heap[w3.heap.size]?=some (.cells (ar 0) 140 (0,0)):=by rw[dL];exact af4 w3 _
         have nF:W3.heap.size≤w3.heap.size:=de.size;clear dL;refine ae rfl rfl (fun K hK=>?_);refine agC 140 (.tmp 12) (.tmp 40) rfl w3.heap.size (ar y) rfl rfl 140 _ mO (by kernel_rfl) rfl (aN _) ?_;refine hK _ _ ⟨.inl (by decide),?_⟩;clear hK K;refine ak ?_;obtain⟨wE,fR⟩:=ab (wN.setRow w3.heap.size (ar y));obtain⟨gE,gV⟩:=ab w3.heap.size;rw[←fR,←gV];have hf:W3.heap.size≤gE∧wE.heap[gE]?=some (.cells (ar y) 140 (0,0))∧Below W3.heap.size W3 wE:=⟨by rw[gV];exact nF,by rw[fR,gV];exact agd _ _ _ _ _ _ mO,by rw[fR];exact ah nZ nF _⟩;clear fR gV;exact hT gE wE hf
       go_wp2_with fail;refine⟨(aW _ _),?_⟩;obtain⟨C8,iX⟩:∃Y,Y=w2.alloc (.cells #[.int .u64 0,.int .u64 0,.int .u64 0,.int .u64 0] 140):=⟨_,rfl⟩
       rw[←iX];have fS:Below W3.heap.size W3 C8:=by rw[iX];exact dZ.alloc dZ.size _
       have jI:C8.heap[w2.heap.size]?=some (.cells (ar 0) 140 (0,0)):=by rw[iX];exact af4 w2 _
       have nF:W3.heap.size≤w2.heap.size:=dZ.size;clear iX;refine ae rfl rfl (fun K hK=>?_);go_wp2_with fail;refine(HN3.out _ fS).mono ?_;rintro e C9 ⟨rfl,fT⟩;have n5:Below W3.heap.size W3 C9:=fS.trans (fT.mono fS.size);have jJ:=(fT.block _ (af3.1 jI).1).trans jI;go_wp2_with fail;refine⟨.inr (aj fT),?_⟩;refine ae rfl rfl (fun K hK=>?_);refine agC 140 (.tmp 12) (.tmp 40) rfl w2.heap.size (ar y) rfl rfl 140 _ jJ (by kernel_rfl) rfl (aN _) ?_;refine hK _ _ ⟨.inl (by decide),?_⟩;clear hK K;refine ak ?_;obtain⟨wE,fR⟩:=ab (C9.setRow w2.heap.size (ar y));obtain⟨gE,gV⟩:=ab w2.heap.size;rw[←fR,←gV];have hf:W3.heap.size≤gE∧wE.heap[gE]?=some (.cells (ar y) 140 (0,0))∧Below W3.heap.size W3 wE:=⟨by rw[gV];exact nF,by rw[fR,gV];exact agd _ _ _ _ _ _ jJ,by rw[fR];exact ah n5 nF _⟩;clear fR gV;exact hT gE wE hf
     go_wp2_with fail;refine⟨(aW _ _),?_⟩;obtain⟨C8,iX⟩:∃Y,Y=w1.alloc (.cells #[.int .u64 0,.int .u64 0,.int .u64 0,.int .u64 0] 140):=⟨_,rfl⟩
     rw[←iX];have fS:Below W3.heap.size W3 C8:=by rw[iX];exact dy.alloc dy.size _
     have jI:C8.heap[w1.heap.size]?=some (.cells (ar 0) 140 (0,0)):=by rw[iX];exact af4 w1 _
     have nF:W3.heap.size≤w1.heap.size:=dy.size;clear iX;refine ae rfl rfl (fun K hK=>?_);go_wp2_with fail;refine(Rv.out _ fS).mono ?_;rintro e XU ⟨rfl,kp⟩;have kq:Below W3.heap.size W3 XU:=fS.trans (kp.mono fS.size);have n7:=(kp.block _ (af3.1 jI).1).trans jI;go_wp2_with fail;refine⟨.inr (aj kp),?_⟩;refine ae rfl rfl (fun K hK=>?_);go_wp2_with fail;refine(HN3.out _ kq).mono ?_;rintro e C9 ⟨rfl,fT⟩;have n5:Below W3.heap.size W3 C9:=kq.trans (fT.mono kq.size);have jJ:=(fT.block _ (af3.1 n7).1).trans n7;go_wp2_with fail;refine⟨.inr (aj fT),?_⟩;refine ae rfl rfl (fun K hK=>?_);refine agC 140 (.tmp 12) (.tmp 40) rfl w1.heap.size (ar y) rfl rfl 140 _ jJ (by kernel_rfl) rfl (aN _) ?_;refine hK _ _ ⟨.inl (by decide),?_⟩;clear hK K;refine ak ?_;obtain⟨wE,fR⟩:=ab (C9.setRow w1.heap.size (ar y));obtain⟨gE,gV⟩:=ab w1.heap.size;rw[←fR,←gV];have hf:W3.heap.size≤gE∧wE.heap[gE]?=some (.cells (ar y) 140 (0,0))∧Below W3.heap.size W3 wE:=⟨by rw[gV];exact nF,by rw[fR,gV];exact agd _ _ _ _ _ _ jJ,by rw[fR];exact ah n5 nF _⟩;clear fR gV;exact hT gE wE hf
   go_wp2_with fail;refine⟨(aW _ _),?_⟩;obtain⟨C8,iX⟩:∃Y,Y=(W3.alloc (.cells #[.int .u64 0,.int .u64 0,.int .u64 0,.int .u64 0] 140)).drew:=⟨_,rfl⟩
   rw[←iX];have fS:Below W3.heap.size W3 C8:=by rw[iX];exact((af5 _ W3).alloc (af2 _) _).drew
   have jI:C8.heap[W3.heap.size]?=some (.cells (ar 0) 140 (0,0)):=by rw[iX];exact af4 W3 _
   have nF:W3.heap.size≤W3.heap.size:=af2 _;clear iX;refine ae rfl rfl (fun K hK=>?_);go_wp2_with fail;refine(HN1.out _ fS).mono ?_;rintro e wN1 ⟨rfl,vO⟩;have vP:Below W3.heap.size W3 wN1:=fS.trans (vO.mono fS.size);have Da:=(vO.block _ (af3.1 jI).1).trans jI;go_wp2_with fail;refine⟨.inr (aj vO),?_⟩;refine ae rfl rfl (fun K hK=>?_);go_wp2_with fail;refine(Rv.out _ vP).mono ?_;rintro e XU ⟨rfl,kp⟩;have kq:Below W3.heap.size W3 XU:=vP.trans (kp.mono vP.size);have n7:=(kp.block _ (af3.1 Da).1).trans Da;go_wp2_with fail;refine⟨.inr (aj kp),?_⟩;refine ae rfl rfl (fun K hK=>?_);go_wp2_with fail;refine(HN3.out _ kq).mono ?_;rintro e C9 ⟨rfl,fT⟩;have n5:Below W3.heap.size W3 C9:=kq.trans (fT.mono kq.size);have jJ:=(fT.block _ (af3.1 n7).1).trans n7;go_wp2_with fail;refine⟨.inr (aj fT),?_⟩;refine ae rfl rfl (fun K hK=>?_);refine agC 140 (.tmp 12) (.tmp 40) rfl W3.heap.size (ar y) rfl rfl 140 _ jJ (by kernel_rfl) rfl (aN _) ?_;refine hK _ _ ⟨.inl (by decide),?_⟩;clear hK K;refine ak ?_;obtain⟨wE,fR⟩:=ab (C9.setRow W3.heap.size (ar y));obtain⟨gE,gV⟩:=ab W3.heap.size;rw[←fR,←gV];have hf:W3.heap.size≤gE∧wE.heap[gE]?=some (.cells (ar y) 140 (0,0))∧Below W3.heap.size W3 wE:=⟨by rw[gV];exact nF,by rw[fR,gV];exact agd _ _ _ _ _ _ jJ,by rw[fR];exact ah n5 nF _⟩;clear fR gV;exact hT gE wE hf
 rintro gY W4 ⟨u5,gY4,pE⟩;clear HN1 Rv HN3 s0 s1 s2 s3 t0 t1 t2 t3;have dn:=bd.trans (pE.mono bd.size);have gS4:=(pE.block gS HlS.out).trans GS.out;have xY:g<W4.heap.size:=agq fl pE.size;have HF4:=aa (Ru.out.below pE fl);have XW:Hid (B+2≤gY):=aa (by have:=kM.out;have:=bd.size;omega);clear Ru pE GS HlS fl bd;obtain⟨yy,hyy⟩:∃yy,yy=y*y%al:=⟨_,rfl⟩;have Iy:y<2^256:=Nat.lt_trans Ly.out dM
 have HMy:Hid (∀X,Below W4.heap.size W4 X→Calls Tryz.prog 175 #[.pointer (some ⟨g,0,none⟩),.agg (ar y),.agg (ar y)] X fun e W'=>e=.returned (.agg (ar yy))∧Below X.heap.size X W'):=
  aa fun X hX=>by rw[hyy];exact l8 g 0 al dP rA dM y y Iy Iy X (HF4.out.below hX xY)
 have hEq:∀ww,(Op.equalIn 10000 140 (.agg (ar yy)) (.agg #[.int .u64 (dw s7 0:Nat),.int .u64 (dw s7 1:Nat),.int .u64 (dw s7 2:Nat),.int .u64 (dw s7 3:Nat)])).run Tryz.prog ww=.ok (decide (yy=s7)) ww:=fun ww=>NW yy s7 (by rw[hyy];exact Nat.lt_trans (Nat.mod_lt _ (Nat.lt_trans Nat.one_pos oZ)) dM) (Nat.lt_trans Ls7.out dM) ww
 have Vw:Hid (eL x=decide (yy=s7)):=aa (by rw[hyy,Hy.out,Hs7.out];rfl);clear hyy;obtain⟨s0,s1,s2,s3⟩:=jq gS4;obtain⟨y0,y1,y2,y3⟩:=jq gY4;have HlY:=aa (af3.1 gY4).1;have GY:=aa gY4;clear gS4 gY4;go_wp2_with fail;refine an [(0,0),(1,1),(2,1),(4,1),(3,2),(5,0)] 6 bW (by kernel_rfl) (by intro c a d v w h;cases d<;>exact h) ?_
 repeat ((first|refine ag rfl fun K hK=>?_|refine af rfl fun K hK=>?_);go_simp;(first|refine hK _ ?_|(simp only[IntWalk.iteOmega];go_simp;refine hK _ ?_)|(go_bits;go_simp;refine hK _ ?_));clear hK K;try go_bits)
 refine ae rfl rfl (fun K hK=>?_);go_wp2_with fail;refine(HMy.out _ (af5 _ _).drew).mono ?_;rintro e w5 ⟨rfl,hc5⟩;have eh:Below W4.heap.size W4 w5:=(af5 _ _).drew.trans (hc5.mono (af2 _));go_wp2_with fail;refine⟨.inr (aj hc5),?_⟩
 repeat ((first|refine ag rfl fun K hK=>?_|refine af rfl fun K hK=>?_);go_simp;(first|refine hK _ ?_|(simp only[IntWalk.iteOmega];go_simp;refine hK _ ?_)|(go_bits;go_simp;refine hK _ ?_));clear hK K;try go_bits)
 refine ak ?_;clear HMy hEq s0 s1 s2 s3 y1 y2 y3;have SQ:=dn.trans (eh.mono dn.size);have kO:B<W0.heap.size:=by have:=kM.out;omega
 have ac6:B+1<W0.heap.size:=by have:=kM.out;omega
 have XX:=aa ((SQ.block B kO).trans GX.out);have GR5:=aa ((SQ.block (B+1) ac6).trans GR.out);have GY5:=aa ((eh.block gY HlY.out).trans GY.out);have z0:=(eh.cell (p:=⟨gY,0,none⟩) HlY.out).trans y0;have jT:=bL.trans (SQ.mono (by have:=HB.out;omega));have hYB:gY≠B+1:=by have:=XW.out;omega
 have ac7:gY≠B:=by have:=XW.out;omega
 have HF5:=aa (HF4.out.below eh xY);clear y0 eh SQ dn GX GR GY hc5
 by_cases hE:yy=s7
 · rw[af9 hE]
   obtain⟨yw,hyw⟩:=ab (dw y 0);rw[←hyw] at z0;obtain⟨bb,nC⟩:∃bb:Nat,bits .and .u64 (yw:Int) 1=(bb:Int):=⟨yw &&& 1,bits_and_u64_nat yw 1 (by rw[hyw];exact kj _ _) (by decide)⟩;clear hyw
   by_cases uD:bb=odd
   · subst uD
     go_wp2_with (first|(refine aga rfl 140 (.tmp 4) rfl B rfl 140 #[.int .u64 (dw x 0:Nat),.int .u64 (dw x 1:Nat),.int .u64 (dw x 2:Nat),.int .u64 (dw x 3:Nat)] (0,0) _ XX.out Tryz.underlying140 rfl (by kernel_rfl) ?_)|(refine aga rfl 140 (.tmp 12) rfl gY rfl 140 #[.int .u64 (dw y 0:Nat),.int .u64 (dw y 1:Nat),.int .u64 (dw y 2:Nat),.int .u64 (dw y 3:Nat)] (0,0) _ GY5.out Tryz.underlying140 rfl (by kernel_rfl) ?_)|(refine af6 rfl 142 (.tmp 6) (.tmp 59) rfl (B+1) (Fp x y) rfl rfl 142 _ GR5.out (by kernel_rfl) rfl (rC _ _) ?_))
     refine agf (v:=.tuple #[.agg (Fp x y),.bool true]) ?_ rfl ⟨_,by rw[Vw.out,af9 hE],rfl,rC _ _,ah jT (by have:=HB.out;omega) _⟩
     exact ai rfl _ _ (B+1) 142 (Fp x y) (0,0) _ rfl (agd _ _ _ _ _ _ GR5.out) _ rfl Tryz.underlying142 rfl (by kernel_rfl)
   have ae4:¬((bb:Int)=(odd:Int)):=by omega
   obtain⟨yn,XY⟩:∃yn,yn=(al-y)%al:=⟨_,rfl⟩
   have HNg:Hid (Calls Tryz.prog 179 #[.pointer (some ⟨g,0,none⟩),.agg (ar y)] w5 fun e W'=>e=.returned (.agg (ar yn))∧Below w5.heap.size w5 W'):=
    aa (by rw[XY];exact N1 g 0 al dP y Ly.out dM w5 HF5.out)
   have aaS:=aa (af3.1 XX.out).1;have aaT:=aa (af3.1 GR5.out).1;have aaU:=aa (af3.1 GY5.out).1;clear XY;go_wp2_with (refine aga rfl 140 (.tmp 12) rfl gY rfl 140 (ar y) (0,0) _ GY5.out Tryz.underlying140 rfl (by kernel_rfl) ?_);refine HNg.out.mono ?_;rintro e w6 ⟨rfl,fv⟩;have gX6:=(fv.block B aaS.out).trans XX.out;have gR6:=(fv.block (B+1) aaT.out).trans GR5.out;have gY6:=(fv.block gY aaU.out).trans GY5.out;have Ks:=jT.trans (fv.mono jT.size);clear z0 fv HNg aaS aaT aaU;go_wp2_with (first|(refine fI rfl 140 (.tmp 12) (.tmp 55) rfl rfl gY (ar yn) rfl rfl 140 _ gY6 (by kernel_rfl) rfl (aN _) ?_;intro w7 gY7 AL aaV;have gX7:=AL B _ ac7.symm gX6;have gR7:=AL (B+1) _ hYB.symm gR6;have Db:=aaV _ _ (by have:=XW.out;have:=HB.out;omega) Ks;clear AL aaV gX6 gR6 gY6)|(refine aga rfl 140 (.tmp 4) rfl B rfl 140 #[.int .u64 (dw x 0:Nat),.int .u64 (dw x 1:Nat),.int .u64 (dw x 2:Nat),.int .u64 (dw x 3:Nat)] (0,0) _ gX7 Tryz.underlying140 rfl (by kernel_rfl) ?_)|(refine aga rfl 140 (.tmp 12) rfl gY rfl 140 #[.int .u64 (dw yn 0:Nat),.int .u64 (dw yn 1:Nat),.int .u64 (dw yn 2:Nat),.int .u64 (dw yn 3:Nat)] (0,0) _ gY7 Tryz.underlying140 rfl (by kernel_rfl) ?_)|(refine af6 rfl 142 (.tmp 6) (.tmp 59) rfl (B+1) (Fp x yn) rfl rfl 142 _ gR7 (by kernel_rfl) rfl (rC _ _) ?_))
   refine agf (v:=.tuple #[.agg (Fp x yn),.bool true]) ?_ rfl ⟨_,by rw[Vw.out,af9 hE],rfl,rC _ _,ah Db (by have:=HB.out;omega) _⟩
   exact ai rfl _ _ (B+1) 142 (Fp x yn) (0,0) _ rfl (agd _ _ _ _ _ _ gR7) _ rfl Tryz.underlying142 rfl (by kernel_rfl)
 rw[af8 hE];go_wp2_with (refine af6 rfl 142 (.tmp 6) (.tmp 47) rfl (B+1) IF rfl rfl 142 _ GR5.out (by kernel_rfl) rfl o6 ?_);refine agf (v:=.tuple #[.agg IF,.bool false]) ?_ rfl ⟨_,by rw[Vw.out,af8 hE],rfl,o6,ah jT (by have:=HB.out;omega) _⟩
 exact ai rfl _ _ (B+1) 142 IF (0,0) _ rfl (agd _ _ _ _ _ _ GR5.out) _ rfl Tryz.underlying142 rfl (by kernel_rfl)
end Go.Proofs.YtcjioogololnoaaGreatDoor
namespace Go.Proofs.YtcjioogololnoaaGreatDoor
open Go.RowKit Go.Shelf
section
variable {P:Program} {ops:Array Oper} {N:Nat}
theorem eW {i:Nat} {rest:List (Nat×Nat)} {o:Oper} {a:Act} {w:World} {Q:Exit→Act→World→Prop} (ho:ops[i]?=some o) (hg:Region.wanted o (yielded ops a.tmps)=true)
 (h:∀K:Act→World→Prop,(∀a' w',((N≤i∨Ext w w')∧ay P ops (Q .normal) (fun i K a w=>wpOp P ops Q i K a w) N rest a' w')→K a' w')→o.wp P a w K Q):
 ay P ops (Q .normal) (fun i K a w=>wpOp P ops Q i K a w) N ((i,2)::rest) a w:=by
 simp only[ay,show¬(2=0) by decide,show¬(2=1) by decide,if_false,wpOp,ho,hg,if_true];exact .inl (h _ (fun _ _ h=>h))
theorem n8 {i:Nat} {rest:List (Nat×Nat)} {o:Oper} {a:Act} {w:World} {Q:Exit→Act→World→Prop} (ho:ops[i]?=some o) (hg:Region.wanted o (yielded ops a.tmps)=false)
 (h:ay P ops (Q .normal) (fun i K a w=>wpOp P ops Q i K a w) N rest (a.put o.dst undef) w):
 ay P ops (Q .normal) (fun i K a w=>wpOp P ops Q i K a w) N ((i,2)::rest) a w:=by
 simp only[ay,show¬(2=0) by decide,show¬(2=1) by decide,if_false,wpOp,ho,hg,Bool.false_eq_true];exact⟨.inr (Ext.refl _),h⟩
end
theorem SR:∀x:Fin 256,bits .andNot .u8 ((x.val:Nat):Int) 1=((x.val-x.val%2:Nat):Int):=by decide+kernel
theorem SS:∀x:Fin 256,bits .and .u8 ((x.val:Nat):Int) 1=((x.val%2:Nat):Int):=by decide+kernel
theorem Ol (h:UInt8):((h.toNat-h.toNat%2:Nat)=2)↔(h=2∨h=3):=by
 have hl:=h.toNat_lt;constructor
 · intro e
   rcases (show h.toNat=2∨h.toNat=3 by omega) with e|e
   · left;exact UInt8.toNat_inj.1 (by rw[e];rfl)
   right;exact UInt8.toNat_inj.1 (by rw[e];rfl)
 rintro(rfl|rfl)<;>rfl
theorem kr (h:UInt8) (t:List UInt8):iE (h::t)=(decide (t.length=32)&&(decide (h=2)||decide (h=3))&&decide (dY t<al)&&eL (dY t)):=rfl
set_option exponentiation.threshold 1000 in
theorem Ft (g:Nat) (A:Option Addr) (c:Nat) (bs:List UInt8) (hc:bs.length≤c) (w:World) (hF:FieldAt w g 0 al dP) (hs:Sl w w.heap.size A (B8 bs)):
 Calls Tryz.prog 98 #[.pointer (some ⟨g,0,none⟩),.slice A bs.length c] w fun e W'=>∃pt:Array Value,e=.returned (.tuple #[.agg pt,.bool (iE bs)])∧pt.size=12∧pt.all (·.oneCell')=true∧Below w.heap.size w W':=by
 have bW:Tryz.prog.follows .mixedOrders=true:=by kernel_rfl
 have pq:=hF.1;obtain⟨P,hP⟩:=ab (iE bs);rw[←hP];have HP:=aa hP;obtain⟨n,hn⟩:=ab bs.length;rw[←hn] at hc⊢;have Hn:=aa hn;have Hs:=aa hs;clear hP hn hs
 by_cases h33:n=33
 · subst h33
   have vQ:bs.length=33:=Hn.out.symm
   obtain⟨h,t,Nd⟩:∃h t,bs=h::t:=by
    cases bs with
    |nil=>simp at vQ
    |cons h t=>exact⟨h,t,rfl⟩
   subst Nd;have ht:t.length=32:=by simpa using vQ
   obtain⟨b0,o0,rfl,bL,aD⟩:=Hs.out.at_ (k:=0) (by simp);have c0:w.cell? ⟨b0,o0,none⟩=some (.int .u8 (h.toNat:Int)):=aD 0 (by simp)
   have cW:Sl w w.heap.size (some ⟨b0,o0+1,none⟩) (B8 t):=by
    have h1:=Hs.out.cut (k:=1) (m:=32) (cap:=c) (by rw[B8_length,vQ];omega) (by rw[B8_length,vQ];exact hc);rw[if_neg (by omega)] at h1
    have e1:((B8 (h::t)).drop 1).take 32=B8 t:=by
     rw[show (B8 (h::t)).drop 1=B8 t from rfl,af7 (by rw[B8_length,ht];exact af2 _)]
    rw[e1] at h1;exact h1
   have eg:=aa cW;obtain⟨q,hq⟩:∃q:Nat,q=h.toNat-h.toNat%2:=⟨_,rfl⟩;have han:bits .andNot .u8 (h.toNat:Int) 1=(q:Int):=by rw[hq];exact SR ⟨h.toNat,h.toNat_lt⟩
   obtain⟨r,hr⟩:∃r:Nat,r=h.toNat%2:=⟨_,rfl⟩;have BS:bits .and .u8 (h.toNat:Int) 1=(r:Int):=by rw[hr];exact SS ⟨h.toNat,h.toNat_lt⟩
   have hwr:IntKind.u64.wrap (r:Int)=(r:Int):=by rw[IntKind.wrap_u64];omega
   have Hq:=aa hq;have Ht:=aa ht;clear aD vQ cW hq hr ht;go_enter Tryz.func98,Tryz.ntmps98;have aF:=af4 w (.cells IF 142);obtain⟨W0,aM⟩:=ab (w.alloc (.cells IF 142));rw[←aM] at aF;have SU:Below w.heap.size w W0:=by rw[aM];exact(af5 _ w).alloc (af2 _) _
   have iC:W0.heap.size=w.heap.size+1:=by rw[aM];simp
   by_cases hh:q=2
   · go_wp2_with fail
     refine(show W0=_ from aM)▸?_;clear aM;obtain⟨B,hB⟩:=ab w.heap.size;rw[←hB] at aF iC⊢;have HB:=aa hB;have Rw:Sl W0 W0.heap.size (some ⟨b0,o0+1,none⟩) (B8 t):=(eg.out.below SU).mono (by omega);have AJ:=aa (hF.below SU pq);have Kt:g<W0.heap.size:=by omega
     have iu:=(SU.cell (p:=⟨b0,o0,none⟩) bL).trans c0;have Cv:b0<W0.heap.size:=by omega
     have kM:=aa iC;have eC:=aa aF;clear hB iC aF c0;obtain⟨X,hX⟩:=ab (dY t);have rD:X<2^256:=by rw[hX];exact agq (lE t) (by rw[Ht.out];decide)
     have HX:=aa hX;have XZ:=aa (vK _ (c-1) t Ht.out W0 Rw);rw[←hX] at XZ;have IG:=aa rD;clear hX Rw rD;refine XZ.out.mono ?_;rintro e w1 ⟨rfl,aZ⟩;go_wp2_with (refine af6 rfl 140 (.tmp 6) (.tmp 20) rfl w1.heap.size (ar X) rfl rfl 140 _ (af4 w1 _) (by kernel_rfl) rfl (aN _) ?_;rw[agi];obtain⟨W2,il⟩:=ab (w1.alloc (.cells (ar X) 140));rw[←il];obtain⟨gX,X1⟩:=ab w1.heap.size;rw[←X1];have Mt:W2.heap[gX]?=some (.cells (ar X) 140 (0,0)):=(by rw[il,X1];exact af4 w1 _);have bt:Below W0.heap.size W0 W2:=(by rw[il];exact aZ.alloc aZ.size _);clear il X1 aZ);have xZ:=aa (AJ.out.below bt Kt);have ez:=(bt.cell (p:=⟨b0,o0,none⟩) Cv).trans iu;have lv:g<W2.heap.size:=agq Kt bt.size;have sK:b0<W2.heap.size:=agq Cv bt.size;obtain⟨x0,x1,x2,x3⟩:=jq Mt;have EC:=aa (af3.1 Mt).1
     have HBe:Hid (∀Y,Below W2.heap.size W2 Y→Calls Tryz.prog 139 #[.pointer (some ⟨g,0,none⟩),.agg (ar X)] Y fun e W'=>e=.returned (.bool (decide (X<al)))∧Below Y.heap.size Y W'):=
      aa fun Y hY=>vI g 0 al dP X IG.out dM Y (xZ.out.below hY lv)
     clear Mt iu AJ XZ;refine an [(0,0),(1,0),(2,0),(3,1),(4,2),(5,0)] 6 bW (by kernel_rfl) (by intro c a d v w h;cases d<;>exact h) ?_
     repeat ((first|refine ag rfl fun K hK=>?_|refine af rfl fun K hK=>?_);go_simp;(first|refine hK _ ?_|(simp only[IntWalk.iteOmega];go_simp;refine hK _ ?_)|(go_bits;go_simp;refine hK _ ?_));clear hK K;try go_bits)
     refine ae rfl rfl (fun K hK=>?_);go_wp2_with fail;refine(HBe.out _ (af5 _ _).drew).mono ?_;rintro e w3 ⟨rfl,vR⟩;have bd:Below W2.heap.size W2 w3:=(af5 _ _).drew.trans (vR.mono (af2 _));go_wp2_with fail;refine⟨.inr (aj vR),?_⟩
     repeat ((first|refine ag rfl fun K hK=>?_|refine af rfl fun K hK=>?_);go_simp;(first|refine hK _ ?_|(simp only[IntWalk.iteOmega];go_simp;refine hK _ ?_)|(go_bits;go_simp;refine hK _ ?_));clear hK K;try go_bits)
     refine ak ?_;have X2:=bt.trans (bd.mono bt.size);have de:=SU.trans (X2.mono (by have:=kM.out;have:=HB.out;omega));have GR:=aa ((X2.block B (by have:=kM.out;omega)).trans eC.out)
     by_cases hXp:X<al
     · rw[af9 hXp]
       have Mv:P=eL X:=by
        rw[HP.out,kr];rw[af9 Ht.out,af9 (show dY t<al by rw[←HX.out];exact hXp),←HX.out];rcases (Ol h).1 (by rw[←Hq.out];exact hh) with e|e<;>simp[e]
       have HPv:=aa Mv;clear Mv;have x30:=(bd.cell (p:=⟨gX,0,none⟩) EC.out).trans x0;have x31:=(bd.cell (p:=⟨gX,1,none⟩) EC.out).trans x1;have x32:=(bd.cell (p:=⟨gX,2,none⟩) EC.out).trans x2;have x33:=(bd.cell (p:=⟨gX,3,none⟩) EC.out).trans x3;have ae5:=(bd.cell (p:=⟨b0,o0,none⟩) sK).trans ez;have Ru:=aa (xZ.out.below bd lv);have fl:g<w3.heap.size:=agq lv bd.size
       have Vx:Hid (∀Y,Below w3.heap.size w3 Y→Calls Tryz.prog 140 #[.pointer (some ⟨g,0,none⟩),.agg (ar X),.int .u64 r] Y fun e W'=>∃pt:Array Value,e=.returned (.tuple #[.agg pt,.bool (eL X)])∧pt.size=12∧pt.all (·.oneCell')=true∧Below Y.heap.size Y W'):=
        aa fun Y hY=>Oj g X r hXp Y (Ru.out.below hY fl)
       have Oi:=aa (af3.1 GR.out).1;clear x0 x1 x2 x3 ez HBe vR bt bd X2;go_wp2_with fail;refine an [(0,0),(1,1),(2,0),(3,0),(4,1),(5,0),(6,0),(7,2),(8,0),(9,0),(10,2),(11,2)] 10 bW (by kernel_rfl) (by intro c a d v w h;cases d<;>exact h) ?_
       repeat ((first|refine ag rfl fun K hK=>?_|refine af rfl fun K hK=>?_);go_simp;(first|refine hK _ ?_|(simp only[IntWalk.iteOmega];go_simp;refine hK _ ?_)|(go_bits;go_simp;refine hK _ ?_));clear hK K;try go_bits)
       refine ae rfl rfl (fun K hK=>?_);go_wp2_with fail;refine(Vx.out _ (af5 _ _).drew).mono ?_;rintro e w4 ⟨pt,rfl,iO,yf,Aq⟩;have dn:Below w3.heap.size w3 w4:=(af5 _ _).drew.trans (Aq.mono (af2 _));go_wp2_with fail;refine⟨.inr (aj Aq),?_⟩
       repeat ((first|refine ag rfl fun K hK=>?_|refine af rfl fun K hK=>?_);go_simp;(first|refine hK _ ?_|(simp only[IntWalk.iteOmega];go_simp;refine hK _ ?_)|(go_bits;go_simp;refine hK _ ?_));clear hK K;try go_bits)
       have Vu:=(dn.block B Oi.out).trans GR.out;have BU:(Tryz.prog.info? 142).map (·.size)=some pt.size:=by rw[iO];kernel_rfl
       refine ae rfl rfl (fun K hK=>?_);refine agC 142 (.tmp 4) (.tmp 36) rfl B pt rfl rfl 142 _ Vu BU (by rw[iO];rfl) yf ?_;refine hK _ _ ⟨.inl (by decide),?_⟩;clear hK K;refine ae rfl rfl (fun K hK=>?_);go_wp2_with fail;refine⟨.inl (by decide),?_⟩;refine ak ?_;have lG:=de.trans (dn.mono de.size);go_wp2_with fail;refine agf (v:=.tuple #[.agg pt,.bool (eL X)]) ?_ rfl ⟨_,by rw[HPv.out],iO,yf,ah lG (by have:=HB.out;omega) _⟩
       exact ai rfl _ _ B 142 pt (0,0) _ rfl (agd _ _ _ _ _ _ Vu) _ rfl Tryz.underlying142 rfl BU
     rw[af8 hXp]
     have Mv:P=false:=by
      rw[HP.out,kr,←HX.out,af8 hXp];simp
     go_wp2_with (refine af6 rfl 142 (.tmp 4) (.tmp 27) rfl B IF rfl rfl 142 _ GR.out (by kernel_rfl) rfl o6 ?_);refine agf (v:=.tuple #[.agg IF,.bool false]) ?_ rfl ⟨_,by rw[Mv],rfl,o6,ah de (by have:=HB.out;omega) _⟩
     exact ai rfl _ _ B 142 IF (0,0) _ rfl (agd _ _ _ _ _ _ GR.out) _ rfl Tryz.underlying142 rfl (by kernel_rfl)
   have hI:¬((q:Int)=2):=by omega
   have Mv:P=false:=by
    rw[HP.out,kr];have SV:¬(h=2∨h=3):=fun e=>hh (by rw[Hq.out];exact(Ol h).2 e)
    simp only[not_or] at SV;simp[SV.1,SV.2]
   go_wp2_with fail;refine agf (v:=.tuple #[.agg IF,.bool false]) ?_ rfl ⟨_,by rw[Mv],rfl,o6,(af5 _ w).alloc (af2 _) _⟩
   exact ai rfl _ _ w.heap.size 142 IF (0,0) _ rfl (af4 w _) _ rfl Tryz.underlying142 rfl (by kernel_rfl)
 have hI:¬((n:Int)=33):=by omega
 have Mv:P=false:=by
  rw[HP.out];unfold iE;split
  · rfl
  next h t=>
  have:¬t.length=32:=by have:=Hn.out;simp at this;omega
  simp[this]
 go_enter Tryz.func98,Tryz.ntmps98;go_wp2_with fail;refine agf (v:=.tuple #[.agg IF,.bool false]) ?_ rfl ⟨_,by rw[Mv],rfl,o6,(af5 _ w).alloc (af2 _) _⟩
 exact ai rfl _ _ w.heap.size 142 IF (0,0) _ rfl (af4 w _) _ rfl Tryz.underlying142 rfl (by kernel_rfl)
theorem rE (A:Option Addr) (c:Nat) (bs:List UInt8) (hc:bs.length≤c) (w:World) (hs:Sl w w.heap.size A (B8 bs)):
 Calls Tryz.prog 67 #[.slice A bs.length c] w fun e W'=>e=.returned (.bool (iE bs))∧Below w.heap.size w W':=by
 obtain⟨P,hP⟩:=ab (iE bs);rw[←hP]
 have HU:Hid (∀(g:Nat) (X:World),FieldAt X g 0 al dP→Below w.heap.size w X→Calls Tryz.prog 98 #[.pointer (some ⟨g,0,none⟩),.slice A bs.length c] X fun e W'=>∃pt:Array Value,e=.returned (.tuple #[.agg pt,.bool P])∧pt.size=12∧pt.all (·.oneCell')=true∧Below X.heap.size X W'):=
  aa fun g X hF hX=>by rw[hP];exact Ft g A c bs hc X hF ((hs.below hX).mono hX.size)
 obtain⟨n,hn⟩:=ab bs.length;rw[←hn] at HU⊢;clear hP hn hc hs;go_enter Tryz.func67,Tryz.ntmps67;go_wp2_with fail;refine(sR w).mono ?_;rintro e w1 ⟨g,rfl,hg,Ey,X3,aZ⟩;go_wp2_with fail;refine(HU.out g w1 Ey aZ).mono ?_;rintro e w2 ⟨pt,rfl,iO,yf,bt⟩;have hb:=aZ.trans (bt.mono aZ.size);clear Ey X3 aZ bt hg;have BU:Hid ((Tryz.prog.info? 142).map (·.size)=some pt.size):=aa (by rw[iO];kernel_rfl);have rl:Hid (IF.size=pt.size):=aa (by rw[iO];rfl);have Mw:=aa yf;clear iO yf;go_wp2_with (refine af6 rfl 142 (.tmp 3) (.tmp 9) rfl w2.heap.size pt rfl rfl 142 _ (af4 w2 _) BU.out rl.out Mw.out ?_;rw[agi];obtain⟨W3,iF⟩:=ab (w2.alloc (.cells pt 142));rw[←iF];have bd:Below w.heap.size w W3:=(by rw[iF];exact hb.alloc hb.size _);clear iF);go_ret;exact⟨rfl,bd⟩
theorem SW (g:Nat) (b:List UInt8) (hl:b.length=32) (w:World) (hF:FieldAt w g 7 fE dN):
 Calls Tryz.prog 181 #[.pointer (some ⟨g,0,none⟩),.agg (B8 b).toArray] w fun e W'=>e=.returned (.tuple #[.agg (ar (dY b)),.bool (pU b)])∧Below w.heap.size w W':=by
 have bW:Tryz.prog.follows .mixedOrders=true:=by kernel_rfl
 have pq:=hF.1;obtain⟨P,hP⟩:=ab (pU b);obtain⟨X,hX⟩:=ab (dY b);rw[←hP,←hX];have rD:X<2^256:=by rw[hX];exact agq (lE b) (by rw[hl];decide)
 have HP:Hid (P=(decide (X≠0)&&decide (X<fE))):=aa (by rw[hP,hX];rfl);obtain⟨cs,bB⟩:∃cs,cs=(B8 b).toArray:=⟨_,rfl⟩;rw[←bB];have oX:=aa bB;have HX:=aa hX;have Hl:=aa hl;have IG:=aa rD;clear hP hX bB hl rD;go_enter Tryz.func181,Tryz.ntmps181;go_wp2_with (refine wpList_boxTo rfl 56 (.tmp 1) rfl _ rfl w.heap.size rfl cs rfl ?_);have h2:=iV w (.cells cs 56) (.cells (ar 0) 140);obtain⟨W0,aM⟩:∃W0,W0=(w.alloc (.cells cs 56)).alloc (.cells (ar 0) 140):=⟨_,rfl⟩;have bL:Below w.heap.size w W0:=by rw[aM];exact((af5 _ w).alloc (af2 _) _).alloc (by simp) _
 have iC:W0.heap.size=w.heap.size+2:=by rw[aM];simp
 refine(show W0=_ from aM)▸?_;rw[←aM] at h2;obtain⟨gB,gR⟩:=h2;obtain⟨B,hB⟩:=ab w.heap.size;rw[←hB] at gB gR iC⊢
 have vq:Sl W0 W0.heap.size (some ⟨B,0,none⟩) (B8 b):=fun _=>⟨B,0,rfl,by omega,fun j hj=>by
  rw[agb _ _ _ _ _ _ gB,oX.out];simp⟩
 have XZ:=aa (vK _ 32 b Hl.out W0 vq);rw[←HX.out] at XZ;have AJ:=aa (hF.below bL pq);have Kt:g<W0.heap.size:=by omega
 have HB:=aa hB;have kM:=aa iC;have eC:=aa gR;clear aM hB iC gB gR vq;refine XZ.out.mono ?_;rintro e w1 ⟨rfl,aZ⟩;go_wp2_with (refine af6 rfl 140 (.tmp 6) (.tmp 8) rfl w1.heap.size (ar X) rfl rfl 140 _ (af4 w1 _) (by kernel_rfl) rfl (aN _) ?_;rw[agi];obtain⟨W2,il⟩:=ab (w1.alloc (.cells (ar X) 140));rw[←il];obtain⟨gX,X1⟩:=ab w1.heap.size;rw[←X1];have Mt:W2.heap[gX]?=some (.cells (ar X) 140 (0,0)):=(by rw[il,X1];exact af4 w1 _);have bt:Below W0.heap.size W0 W2:=(by rw[il];exact aZ.alloc aZ.size _);clear il X1 aZ);have xZ:=aa (AJ.out.below bt Kt);have lv:g<W2.heap.size:=agq Kt bt.size;obtain⟨x0,x1,x2,x3⟩:=jq Mt;have EC:=aa (af3.1 Mt).1;have Vt:=(bt.block (B+1) (by have:=kM.out;omega)).trans eC.out;have Oi:=aa (af3.1 Vt).1;have GR:=aa Vt;have dZ:=bL.trans (bt.mono (by have:=kM.out;have:=HB.out;omega));have HZe:Hid (∀Y,Calls Tryz.prog 206 #[.agg (ar X)] Y fun e W'=>e=.returned (.bool (decide (X=0)))∧Below Y.heap.size Y W'):=aa fun Y=>yW X IG.out Y
 have HBe:Hid (∀Y,Below W2.heap.size W2 Y→Calls Tryz.prog 139 #[.pointer (some ⟨g,7,none⟩),.agg (ar X)] Y fun e W'=>e=.returned (.bool (decide (X<fE)))∧Below Y.heap.size Y W'):=
  aa fun Y hY=>vI g 7 fE dN X IG.out Kq Y (xZ.out.below hY lv)
 clear Mt Vt XZ AJ bt;refine an [(0,1),(1,1),(2,2),(3,0),(4,0),(5,0),(6,0),(7,0),(8,1),(9,2),(10,0),(11,2),(12,2)] 11 bW (by kernel_rfl) (by intro c a d v w h;cases d<;>exact h) ?_
 repeat ((first|refine ag rfl fun K hK=>?_|refine af rfl fun K hK=>?_);go_simp;(first|refine hK _ ?_|(simp only[IntWalk.iteOmega];go_simp;refine hK _ ?_)|(go_bits;go_simp;refine hK _ ?_));clear hK K;try go_bits)
 refine ae rfl rfl (fun K hK=>?_);go_wp2_with fail;refine(HZe.out _).mono ?_;rintro e w3 ⟨rfl,vR⟩;have bd:Below W2.heap.size W2 w3:=(af5 _ _).drew.trans (vR.mono (af2 _));go_wp2_with fail;refine⟨.inr (aj vR),?_⟩
 by_cases X4:X=0
 · rw[af9 X4]
   subst X4
   repeat ((first|refine ag rfl fun K hK=>?_|refine af rfl fun K hK=>?_);go_simp;(first|refine hK _ ?_|(simp only[IntWalk.iteOmega];go_simp;refine hK _ ?_)|(go_bits;go_simp;refine hK _ ?_));clear hK K;try go_bits)
   refine n8 rfl ?_ ?_
   · rfl
   repeat ((first|refine ag rfl fun K hK=>?_|refine af rfl fun K hK=>?_);go_simp;(first|refine hK _ ?_|(simp only[IntWalk.iteOmega];go_simp;refine hK _ ?_)|(go_bits;go_simp;refine hK _ ?_));clear hK K;try go_bits)
   have Rs:=(bd.block (B+1) Oi.out).trans GR.out;have de:=dZ.trans (bd.mono dZ.size);have Mv:P=false:=by rw[HP.out];simp
   refine ae rfl rfl (fun K hK=>?_);refine agC 140 (.tmp 4) (.tmp 9) rfl (B+1) (ar 0) rfl rfl 140 _ Rs (by kernel_rfl) rfl (aN _) ?_;refine hK _ _ ⟨.inl (by decide),?_⟩;clear hK K;refine ae rfl rfl (fun K hK=>?_);go_wp2_with fail;refine ak ?_;go_wp2_with fail;refine agf (v:=.tuple #[.agg (ar 0),.bool false]) ?_ rfl ⟨by rw[Mv],ah de (by have:=HB.out;omega) _⟩
   exact ai rfl _ _ (B+1) 140 (ar 0) (0,0) _ rfl (agd _ _ _ _ _ _ Rs) _ rfl Tryz.underlying140 rfl (by kernel_rfl)
 rw[af8 X4];have x30:=(bd.cell (p:=⟨gX,0,none⟩) EC.out).trans x0;have x31:=(bd.cell (p:=⟨gX,1,none⟩) EC.out).trans x1;have x32:=(bd.cell (p:=⟨gX,2,none⟩) EC.out).trans x2;have x33:=(bd.cell (p:=⟨gX,3,none⟩) EC.out).trans x3
 repeat ((first|refine ag rfl fun K hK=>?_|refine af rfl fun K hK=>?_);go_simp;(first|refine hK _ ?_|(simp only[IntWalk.iteOmega];go_simp;refine hK _ ?_)|(go_bits;go_simp;refine hK _ ?_));clear hK K;try go_bits)
 refine eW rfl ?_ (fun K hK=>?_)
 · rfl
 go_wp2_with fail;refine(HBe.out _ bd).mono ?_;rintro e w4 ⟨rfl,Aq⟩;have dn:Below W2.heap.size W2 w4:=bd.trans (Aq.mono bd.size);go_wp2_with fail;refine⟨.inr (aj Aq),?_⟩
 repeat ((first|refine ag rfl fun K hK=>?_|refine af rfl fun K hK=>?_);go_simp;(first|refine hK _ ?_|(simp only[IntWalk.iteOmega];go_simp;refine hK _ ?_)|(go_bits;go_simp;refine hK _ ?_));clear hK K;try go_bits)
 have Vu:=(dn.block (B+1) Oi.out).trans GR.out;have lG:=dZ.trans (dn.mono dZ.size);have Mv:P=decide (X<fE):=by rw[HP.out,af9 X4,Bool.true_and]
 refine ae rfl rfl (fun K hK=>?_);refine agC 140 (.tmp 4) (.tmp 9) rfl (B+1) (ar X) rfl rfl 140 _ Vu (by kernel_rfl) rfl (aN _) ?_;refine hK _ _ ⟨.inl (by decide),?_⟩;clear hK K;refine ae rfl rfl (fun K hK=>?_);go_wp2_with fail;refine⟨.inl (by decide),?_⟩;refine ak ?_;go_wp2_with fail;refine agf (v:=.tuple #[.agg (ar X),.bool (decide (X<fE))]) ?_ rfl ⟨by rw[Mv],ah lG (by have:=HB.out;omega) _⟩
 exact ai rfl _ _ (B+1) 140 (ar X) (0,0) _ rfl (agd _ _ _ _ _ _ Vu) _ rfl Tryz.underlying140 rfl (by kernel_rfl)
end Go.Proofs.YtcjioogololnoaaGreatDoor
