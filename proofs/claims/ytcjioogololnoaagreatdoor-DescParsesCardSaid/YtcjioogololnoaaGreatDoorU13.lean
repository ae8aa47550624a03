/- Of any text: the program's descriptors and the reference's are read and written alike (DescParses). No condition. -/
import Derived.Test.YtcjioogololnoaaGreatDoorU1
import Derived.Test.YtcjioogololnoaaGreatDoorU12
import Derived.Test.YtcjioogololnoaaGreatDoorU9
import Derived.Deep.MidRow
import Derived.Test.YtcjioogololnoaaGreatDoorU6
import Derived.Test.YtcjioogololnoaaGreatDoorU8
set_option maxRecDepth 1000000
set_option maxHeartbeats 16000000
set_option linter.unusedVariables false
set_option linter.unusedSimpArgs false
namespace Go.Proofs.YtcjioogololnoaaGreatDoor
open Go.RowKit Go.Shelf
section
variable {P:Program} {ops:Array Oper} {N:Nat} {Q:Act→World→Prop} {st:Nat→(Act→World→Prop)→Act→World→Prop}
theorem aX {i:Nat} {rest:List (Nat×Nat)} {o:Oper} {a:Act} {w:World} (ho:ops[i]?=some o) (tF:o.guard=none) (ty:TypeId) (x:Operand) (xX:o.op=.load ty x) (g:Nat) (hx:a.eval x=.pointer (some ⟨g,0,none⟩)) (t:TypeId) (cs:Array Value) (fr:Nat×Nat) (d:TypeDesc) (hg:w.heap[g]?=some (.cells cs t fr))
 (hu:P.underlying ty=some d) (hd:(match d with|.struct _|.array _ _=>true|_=>false)=true) (hi:(P.info? ty).map (·.size)=some cs.size) (h:ay P ops Q st N rest (a.put o.dst (.agg cs)) w):
 ay P ops Q st N ((i,1)::rest) a w:=by
 simp only[ay,if_true,ho,Nat.one_ne_zero,if_false];exact⟨.agg cs,.inl ⟨by simp[Region.wanted,tF],fun w' x6=>bI ty x xX g hx t cs fr d ((x6.below.block g (af3.1 hg).1).trans hg) hu hd hi⟩,h⟩
end
theorem X5 (F:Nat→Nat→World→Prop) {G:Prop} {T:Nat→Nat→World→Prop} (h2:(∀g k w,F g k w→T g k w)→G) (h1:∀g k w,F g k w→T g k w):G:=h2 h1
theorem Ku (b:List UInt8) (hl:b.length=32) (w:World):
 Calls Tryz.prog 144 #[.agg (B8 b).toArray] w fun e W'=>e=.returned (.bool (pU b))∧Below w.heap.size w W':=by
 have bW:Tryz.prog.follows .mixedOrders=true:=by kernel_rfl
 obtain⟨P,hP⟩:=ab (pU b);obtain⟨X,hX⟩:=ab (dY b);obtain⟨cs,bB⟩:∃cs,cs=(B8 b).toArray:=⟨_,rfl⟩;rw[←hP,←bB]
 have HK:Hid (∀(g:Nat) (Y:World),FieldAt Y g 7 fE dN→Calls Tryz.prog 181 #[.pointer (some ⟨g,0,none⟩),.agg cs] Y fun e W'=>e=.returned (.tuple #[.agg (ar X),.bool P])∧Below Y.heap.size Y W'):=
  aa fun g Y hF=>by rw[bB,hX,hP];exact SW g b hl Y hF
 have dX:cs.size=32:=by rw[bB];simp[hl]
 have kL:=aa (show (Tryz.prog.info? 56).map (·.size)=some cs.size by rw[dX];kernel_rfl);clear hP hX bB hl dX;go_enter Tryz.func144,Tryz.ntmps144;go_wp2_with (refine wpList_boxTo rfl 56 (.tmp 0) rfl _ rfl w.heap.size rfl cs rfl ?_);have aF:=af4 w (.cells cs 56);obtain⟨W0,aM⟩:=ab (w.alloc (.cells cs 56));rw[←aM] at aF;have bL:Below w.heap.size w W0:=by rw[aM];exact(af5 _ w).alloc (af2 _) _
 refine(show W0=_ from aM)▸?_;clear aM;have u6:Below W0.heap.size W0 W0.drew:=(af5 _ _).drew;apply X5 (fun g gN wE=>Below W0.heap.size W0 wE)
 · intro hT
   refine dH _ 7 _ bW (by kernel_rfl) (by intro c a d v w h;cases d<;>exact h) (dG (aw _ (by intro c a d v w h;cases d<;>exact h)) (by kernel_rfl) 8 [(1,1)] _ (by kernel_rfl) (dE (aw _ (by intro c a d v w h;cases d<;>exact h)) 0 6 7 _ (by kernel_rfl) (dG (aw _ (by intro c a d v w h;cases d<;>exact h)) (by kernel_rfl) 7 [] _ (by kernel_rfl) (dE (aw _ (by intro c a d v w h;cases d<;>exact h)) 2 6 6 _ (by kernel_rfl) (bN (aw _ (by intro c a d v w h;cases d<;>exact h)) (by kernel_rfl) [(3,0),(4,0),(5,0),(6,2),(7,2),(8,2)] _ (by kernel_rfl)) (bN (aw _ (by intro c a d v w h;cases d<;>exact h)) (by kernel_rfl) [(2,2),(3,0),(4,0),(5,0),(7,2),(8,2)] _ (by kernel_rfl)))) (bN (aw _ (by intro c a d v w h;cases d<;>exact h)) (by kernel_rfl) [(0,2),(2,2),(3,0),(4,0),(5,0),(7,2),(8,2)] _ (by kernel_rfl)))) ?_;refine aX rfl rfl 56 (.tmp 1) rfl w.heap.size rfl 56 cs (0,0) _ aF Tryz.underlying56 rfl kL.out ?_;refine dI rfl rfl rfl rfl (fun K hK=>?_) (fun K hK=>?_)
   · go_wp2_with fail
     refine(sR _).mono ?_;rintro e w1 ⟨g,rfl,hg,Ey,X3,uC⟩;have dy:Below W0.heap.size W0 w1:=u6.trans (uC.mono u6.size);go_wp2_with fail;refine⟨(aj uC),?_⟩;refine dI rfl rfl rfl rfl (fun K hK=>?_) (fun K hK=>?_)
     · go_wp2_with fail
       refine(HK.out g _ X3).mono ?_;rintro e w2 ⟨rfl,l9⟩;have dZ:Below W0.heap.size W0 w2:=dy.trans (l9.mono dy.size);go_wp2_with fail;refine⟨(aj l9),?_⟩
       repeat ((first|refine ag rfl fun K hK=>?_|refine af rfl fun K hK=>?_);go_simp;(first|refine hK _ ?_|(simp only[IntWalk.iteOmega];go_simp;refine hK _ ?_)|(go_bits;go_simp;refine hK _ ?_));clear hK K;try go_bits)
       refine ae rfl rfl (fun K hK=>?_);go_wp2_with fail;refine⟨.inr (aW _ _),?_⟩;obtain⟨wN,dL⟩:∃Y,Y=w2.alloc (.cells #[.int .u64 0,.int .u64 0,.int .u64 0,.int .u64 0] 140):=⟨_,rfl⟩
       rw[←dL];have nZ:Below W0.heap.size W0 wN:=by rw[dL];exact dZ.alloc dZ.size _
       have mO:wN.heap[w2.heap.size]?=some (.cells (ar 0) 140 (0,0)):=by rw[dL];exact af4 w2 _
       have nF:W0.heap.size≤w2.heap.size:=dZ.size;clear dL;refine ae rfl rfl (fun K hK=>?_);refine agC 140 (.tmp 3) (.tmp 9) rfl w2.heap.size (ar X) rfl rfl 140 _ mO (by kernel_rfl) rfl (aN _) ?_;refine hK _ _ ⟨.inl (by decide),?_⟩;clear hK K;refine ae rfl rfl (fun K hK=>?_);go_wp2_with fail;refine⟨.inl (by decide),?_⟩;refine ak ?_;obtain⟨wE,fR⟩:=ab (wN.setRow w2.heap.size (ar X));obtain⟨gE,gV⟩:=ab w2.heap.size;rw[←fR,←gV];have hf:Below W0.heap.size W0 wE:=by rw[fR];exact ah nZ nF _
       clear fR gV;exact hT g gE wE hf
     go_wp2_with fail;refine⟨(aW _ _),?_⟩;obtain⟨wN,dL⟩:∃Y,Y=w1.alloc (.cells #[.int .u64 0,.int .u64 0,.int .u64 0,.int .u64 0] 140):=⟨_,rfl⟩
     rw[←dL];have nZ:Below W0.heap.size W0 wN:=by rw[dL];exact dy.alloc dy.size _
     have mO:wN.heap[w1.heap.size]?=some (.cells (ar 0) 140 (0,0)):=by rw[dL];exact af4 w1 _
     have nF:W0.heap.size≤w1.heap.size:=dy.size;have aaX:Below w1.heap.size w1 wN:=by rw[dL];exact(af5 _ _).alloc (af2 _) _
     clear dL;refine ae rfl rfl (fun K hK=>?_);go_wp2_with fail;refine(HK.out g _ (X3.below aaX X3.1)).mono ?_;rintro e w3 ⟨rfl,AK⟩;have de:Below W0.heap.size W0 w3:=nZ.trans (AK.mono nZ.size);have ac8:=(AK.block _ (af3.1 mO).1).trans mO;go_wp2_with fail;refine⟨.inr (aj AK),?_⟩
     repeat ((first|refine ag rfl fun K hK=>?_|refine af rfl fun K hK=>?_);go_simp;(first|refine hK _ ?_|(simp only[IntWalk.iteOmega];go_simp;refine hK _ ?_)|(go_bits;go_simp;refine hK _ ?_));clear hK K;try go_bits)
     refine ae rfl rfl (fun K hK=>?_);refine agC 140 (.tmp 3) (.tmp 9) rfl w1.heap.size (ar X) rfl rfl 140 _ ac8 (by kernel_rfl) rfl (aN _) ?_;refine hK _ _ ⟨.inl (by decide),?_⟩;clear hK K;refine ae rfl rfl (fun K hK=>?_);go_wp2_with fail;refine⟨.inl (by decide),?_⟩;refine ak ?_;obtain⟨wE,fR⟩:=ab (w3.setRow w1.heap.size (ar X));obtain⟨gE,gV⟩:=ab w1.heap.size;rw[←fR,←gV];have hf:Below W0.heap.size W0 wE:=by rw[fR];exact ah de nF _
     clear fR gV;exact hT g gE wE hf
   go_wp2_with fail;refine⟨(aW _ _),?_⟩;obtain⟨wN,dL⟩:∃Y,Y=(W0.alloc (.cells #[.int .u64 0,.int .u64 0,.int .u64 0,.int .u64 0] 140)).drew:=⟨_,rfl⟩
   rw[←dL];have nZ:Below W0.heap.size W0 wN:=by rw[dL];exact((af5 _ W0).alloc (af2 _) _).drew
   have mO:wN.heap[W0.heap.size]?=some (.cells (ar 0) 140 (0,0)):=by rw[dL];exact af4 W0 _
   have nF:W0.heap.size≤W0.heap.size:=af2 _;clear dL;refine ae rfl rfl (fun K hK=>?_);go_wp2_with fail;refine(sR _).mono ?_;rintro e w1 ⟨g,rfl,hg,Ey,X3,uC⟩;have dy:Below W0.heap.size W0 w1:=nZ.trans (uC.mono nZ.size);have aaY:=(uC.block _ (af3.1 mO).1).trans mO;go_wp2_with fail;refine⟨.inr (aj uC),?_⟩;refine ae rfl rfl (fun K hK=>?_);go_wp2_with fail;refine(HK.out g _ X3).mono ?_;rintro e w2 ⟨rfl,l9⟩;have dZ:Below W0.heap.size W0 w2:=dy.trans (l9.mono dy.size);have SX:=(l9.block _ (af3.1 aaY).1).trans aaY;go_wp2_with fail;refine⟨.inr (aj l9),?_⟩
   repeat ((first|refine ag rfl fun K hK=>?_|refine af rfl fun K hK=>?_);go_simp;(first|refine hK _ ?_|(simp only[IntWalk.iteOmega];go_simp;refine hK _ ?_)|(go_bits;go_simp;refine hK _ ?_));clear hK K;try go_bits)
   refine ae rfl rfl (fun K hK=>?_);refine agC 140 (.tmp 3) (.tmp 9) rfl W0.heap.size (ar X) rfl rfl 140 _ SX (by kernel_rfl) rfl (aN _) ?_;refine hK _ _ ⟨.inl (by decide),?_⟩;clear hK K;refine ae rfl rfl (fun K hK=>?_);go_wp2_with fail;refine⟨.inl (by decide),?_⟩;refine ak ?_;obtain⟨wE,fR⟩:=ab (w2.setRow W0.heap.size (ar X));obtain⟨gE,gV⟩:=ab W0.heap.size;rw[←fR,←gV];have hf:Below W0.heap.size W0 wE:=by rw[fR];exact ah dZ nF _
   clear fR gV;exact hT g gE wE hf
 rintro g gN wE CL;have mL:=bL.trans (CL.mono bL.size);clear HK aF CL;go_wp2_with fail;go_ret;exact⟨rfl,mL⟩
end Go.Proofs.YtcjioogololnoaaGreatDoor
namespace Go.Proofs.YtcjioogololnoaaGreatDoor
open Go.RowKit Go.Shelf
structure HKey where
 depth:UInt8
 finger:List UInt8
 child:Nat
 chain:List UInt8
 data:List UInt8
deriving DecidableEq
structure HKey.Ok (k:HKey):Prop where
 finger:k.finger.length=4
 chain:k.chain.length=32
 data:k.data.length=33
 child:k.child<4294967296
def ba (k:HKey):List Value:=.int .u8 (k.depth.toNat:Int)::(B8 k.finger++ .int .u32 (k.child:Int)::(B8 k.chain++B8 k.data))
def HKey.priv (k:HKey):Bool:=decide (k.data.getD 0 0=0)
def HKey.good (k:HKey):Bool:=if k.priv then pU (k.data.drop 1) else iE k.data
theorem aI {k:HKey} (h:k.Ok):(ba k).length=71:=by simp[ba,h.finger,h.chain,h.data]
theorem y8 {k:HKey} (h:k.Ok) (j:Nat):(ba k)[38+j]?=(B8 k.data)[j]?:=by
 rw[ba,show 38+j=(37+j)+1 by omega,agG,agv (by simp[h.finger];omega)];rw[B8_length,h.finger,show 37+j-4=(32+j)+1 by omega,agG,agv (by simp[h.chain]),B8_length,h.chain];congr 1;omega
theorem jK (k:HKey):(ba k).toArray.all (·.oneCell')=true:=by
 have h8:∀(l:List UInt8),(B8 l).all (·.oneCell')=true:=fun l=>by
  apply List.all_eq_true.2;intro x hx;simp only[B8,List.mem_map] at hx;obtain⟨y,_,rfl⟩:=hx;rfl
 simp only[List.all_toArray,ba,List.all_cons,List.all_append,h8,Bool.and_true,Bool.true_and];rfl
theorem ib {w:World} {g t:Nat} {fr:Nat×Nat} {k:HKey} (h:k.Ok) (hg:w.heap[g]?=some (.cells (ba k).toArray t fr)) (j:Nat) (hj:j<k.data.length):w.cell? ⟨g,38+j,none⟩=some (.int .u8 (k.data[j].toNat:Int)):=by
 rw[agb _ _ _ _ _ _ hg,agr,y8 h,age (by simpa using hj),dd]
theorem la (k:HKey) (hk:k.Ok) (w:World):
 Calls Tryz.prog 78 #[.agg (ba k).toArray] w fun e W'=>e=.returned (.bool k.priv)∧Below w.heap.size w W':=by
 obtain⟨cs,bB⟩:∃cs,cs=(ba k).toArray:=⟨_,rfl⟩;have h0:0<k.data.length:=by rw[hk.data];omega
 have aD:=fun (W:World) (g:Nat) (h:W.heap[g]?=some (.cells (ba k).toArray 59 (0,0)))=>ib hk h 0 h0
 obtain⟨y,hy⟩:∃y,y=k.data[0]:=⟨_,rfl⟩;simp only[←hy,Nat.add_zero,←bB] at aD;rw[←bB]
 have hP:k.priv=decide ((y.toNat:Int)=0):=by
  unfold HKey.priv;rw[agB,age h0,←hy];simp only[Option.getD_some]
  by_cases h:y=0
  · simp[h]
  have:¬y.toNat=0:=fun e=>h (UInt8.toNat_inj.1 e)
  simp[h,this]
 rw[hP];have hc:=aD _ _ (af4 w (.cells cs 59));clear bB aD hy hP h0;go_enter Tryz.func78,Tryz.ntmps78;go_wp2_with (refine wpList_boxTo rfl 59 (.tmp 0) rfl _ rfl w.heap.size rfl cs rfl ?_);go_ret;exact⟨rfl,(af5 _ w).alloc (af2 _) _⟩
def Om:Array Value:=#[.int .u8 0,.int .u8 0,.int .u8 0,.int .u8 0,.int .u8 0,.int .u8 0,.int .u8 0,.int .u8 0,.int .u8 0,.int .u8 0,.int .u8 0,.int .u8 0,.int .u8 0,.int .u8 0,.int .u8 0,.int .u8 0,.int .u8 0,.int .u8 0,.int .u8 0,.int .u8 0,.int .u8 0,.int .u8 0,.int .u8 0,.int .u8 0,.int .u8 0,.int .u8 0,.int .u8 0,.int .u8 0,.int .u8 0,.int .u8 0,.int .u8 0,.int .u8 0]
theorem rF {P:Program} {arr e:TypeId} {n:Nat} (a:Option Addr) (len cap:Nat) (w:World) (hu:P.underlying arr=some (.array n e)) (hl:n≤len):(Instr.arrayAt arr (.slice a len cap)).run P w=.ok (.pointer a) w:=by
 unfold Instr.arrayAt;simp[run_underlying hu,go_sem,show¬len<n by omega]
theorem Fu (k:HKey) (hk:k.Ok) (w:World):
 Calls Tryz.prog 145 #[.agg (ba k).toArray] w fun e W'=>e=.returned (.agg (B8 (k.data.drop 1)).toArray)∧Below w.heap.size w W':=by
 obtain⟨cs,bB⟩:∃cs,cs=(ba k).toArray:=⟨_,rfl⟩;have aD:=fun (W:World) (g:Nat) (h:W.heap[g]?=some (.cells (ba k).toArray 59 (0,0)))=>ib hk h
 rw[←bB] at aD⊢;have dX:cs.size=71:=by rw[bB];simp[aI hk]
 obtain⟨sc,JX⟩:=ab (B8 (k.data.drop 1));have pP:sc.length=32:=by rw[JX];simp[hk.data]
 have jY:sc.toArray.all (·.oneCell')=true:=by rw[JX];simp only[List.all_toArray];exact List.all_eq_true.2 (aG _)
 rw[←JX];go_enter Tryz.func145,Tryz.ntmps145;have h2:=iV w (.cells cs 59) (.cells Om 56);obtain⟨W0,aM⟩:∃W0,W0=(w.alloc (.cells cs 59)).alloc (.cells Om 56):=⟨_,rfl⟩;have bL:Below w.heap.size w W0:=by rw[aM];exact((af5 _ w).alloc (af2 _) _).alloc (by simp) _
 rw[←aM] at h2;obtain⟨gK,gO⟩:=h2
 have HR:Hid (W0.rangeAt w.heap.size 39 sc):=aa fun j v hv=>by
  have hj:j<sc.length:=(agI.1 hv).1;have hjd:1+j<k.data.length:=by rw[hk.data];omega
  have h:=aD W0 _ gK (1+j) hjd;rw[show 39+j=38+(1+j) by omega,h];rw[JX,oR,List.getElem?_drop,age (by rw[B8_length];exact hjd),dd] at hv;exact hv
 have X6:=aa (show (Tryz.prog.info? 56).map (·.size)=some sc.length by rw[pP];kernel_rfl);have aaZ:=aa (show (Tryz.prog.info? 56).map (·.size)=some sc.toArray.size by rw[List.size_toArray,pP];kernel_rfl);have HsZ:=aa (show Om.size=sc.toArray.size from(show 32=sc.toArray.size by rw[List.size_toArray,pP]));have Hs1:=aa jY;have GO:=aa gO;clear bB aD JX pP jY gK gO;go_wp2_with (refine wpList_boxTo rfl 59 (.tmp 0) rfl _ rfl w.heap.size rfl cs rfl ?_);refine(show W0=_ from aM)▸?_;rw[rF (some ⟨w.heap.size,39,none⟩) 32 32 W0 Tryz.underlying56 (af2 _)];clear aM dX;go_wp2_with (first|(refine wpList_load_mid rfl 56 (.tmp 5) rfl w.heap.size 39 rfl sc _ HR.out Tryz.underlying56 rfl X6.out ?_)|(refine af6 rfl 56 (.tmp 2) (.tmp 6) rfl (w.heap.size+1) sc.toArray rfl rfl 56 _ GO.out aaZ.out HsZ.out Hs1.out ?_));refine agf (v:=.agg sc.toArray) ?_ rfl ⟨rfl,ah bL (by omega) _⟩;exact ags rfl _ _ (w.heap.size+1) 56 sc.toArray (0,0) _ rfl (agd _ _ _ _ _ _ GO.out) Tryz.underlying56 rfl aaZ.out
theorem On (k:HKey) (hk:k.Ok) (w:World):
 Calls Tryz.prog 101 #[.agg (ba k).toArray] w fun e W'=>e=.returned (.bool k.good)∧Below w.heap.size w W':=by
 obtain⟨cs,bB⟩:∃cs,cs=(ba k).toArray:=⟨_,rfl⟩;have aD:=fun (W:World) (g:Nat) (h:W.heap[g]?=some (.cells (ba k).toArray 59 (0,0)))=>ib hk h
 have Fv:=aa (fun ww=>la k hk ww);have X7:=aa (fun ww=>Fu k hk ww);rw[←bB] at aD Fv X7⊢;obtain⟨tl,yb⟩:=ab (k.data.drop 1);have Oo:tl.length=32:=by rw[yb,agD,hk.data]
 have HG0:Hid (k.good=if k.priv then pU tl else iE k.data):=aa (by rw[yb];rfl);simp only[←yb] at X7;clear yb;have dX:cs.size=71:=by rw[bB];simp[aI hk]
 have fJ:=aa (show (Tryz.prog.info? 59).map (·.size)=some cs.size by rw[dX];kernel_rfl);clear bB;go_enter Tryz.func101,Tryz.ntmps101;have aF:=af4 w (.cells cs 59);obtain⟨W0,aM⟩:=ab (w.alloc (.cells cs 59));rw[←aM] at aF;have bL:Below w.heap.size w W0:=by rw[aM];exact(af5 _ w).alloc (af2 _) _
 obtain⟨B,hB⟩:=ab w.heap.size;have eC:=aa aF;have Fw:=aa (af3.1 aF).1;have jk:=aa (aD W0 _ aF);clear aF aD;clear dX;go_wp2_with (first|(refine wpList_boxTo rfl 59 (.tmp 0) rfl _ rfl w.heap.size rfl cs rfl ?_)|(refine aga rfl 59 (.tmp 1) rfl w.heap.size rfl 59 cs (0,0) _ (af4 w _) Tryz.underlying59 rfl fJ.out ?_));refine(show W0=_ from aM)▸?_;rw[←hB] at eC Fw jk⊢;clear aM hB;refine(Fv.out _).mono ?_;rintro e w1 ⟨rfl,aZ⟩;have ld:=aa ((aZ.block B Fw.out).trans eC.out);have dy:=bL.trans (aZ.mono bL.size);obtain⟨p,hp⟩:=ab k.priv;have Hg:Hid (k.good=if p then pU tl else iE k.data):=aa (by rw[hp];exact HG0.out);rw[←hp];clear hp Fv;have SY:Hid (∀(j:Nat) (hj:j<k.data.length),w1.cell? ⟨B,38+j,none⟩=some (.int .u8 (k.data[j].toNat:Int))):=aa fun j hj=>(aZ.cell (p:=⟨B,38+j,none⟩) Fw.out).trans (jk.out j hj)
 have fj:B<w1.heap.size:=agq Fw.out aZ.size;clear eC jk aZ
 cases p with
 |true=>
  go_wp2_with (refine aga rfl 59 (.tmp 1) rfl B rfl 59 cs (0,0) _ ld.out Tryz.underlying59 rfl fJ.out ?_);refine(X7.out _).mono ?_;rintro e w2 ⟨rfl,bt⟩;go_wp2_with fail;refine(Ku tl Oo _).mono ?_;rintro e w3 ⟨rfl,bd⟩;go_wp2_with fail;go_ret;exact⟨by rw[Hg.out];rfl,(dy.trans (bt.mono dy.size)).trans (bd.mono (agx dy.size bt.size))⟩
 |false=>
  go_wp2_with fail
  have hs:Sl w1 w1.heap.size (some ⟨B,38,none⟩) (B8 k.data):=fun _=>⟨B,38,rfl,fj,fun j hj=>by
   rw[SY.out j (by simpa using hj),dd]⟩
  have hpb:=rE (some ⟨B,38,none⟩) 33 k.data (by rw[hk.data];exact af2 _) w1 hs;rw[hk.data] at hpb;refine hpb.mono ?_;rintro e w2 ⟨rfl,bt⟩;go_wp2_with fail;go_ret;exact⟨by rw[Hg.out];rfl,dy.trans (bt.mono dy.size)⟩
theorem u7 (x y n:Nat) (hy:y<2^n):x*2^n ||| y=x*2^n+y:=by
 have h:=Nat.shiftLeft_add_eq_or_of_lt hy x;rw[Nat.shiftLeft_eq] at h;exact h.symm
theorem be4 (a b c d:UInt8):dY [a,b,c,d]=a.toNat*16777216+b.toNat*65536+c.toNat*256+d.toNat:=by
 simp only[dY,List.foldl];omega
theorem X8 (a b c d:UInt8):bits .or .u32 (bits .or .u32 (bits .or .u32 ((a.toNat:Int)*16777216%4294967296) ((b.toNat:Int)*65536%4294967296)) ((c.toNat:Int)*256%4294967296)) (d.toNat:Int)=((dY [a,b,c,d]:Nat):Int):=by
 have ha:=a.toNat_lt;have hb:=b.toNat_lt;have hc:=c.toNat_lt;have hd:=d.toNat_lt;rw[show (a.toNat:Int)*16777216%4294967296=((a.toNat*16777216:Nat):Int) by omega,show (b.toNat:Int)*65536%4294967296=((b.toNat*65536:Nat):Int) by omega,show (c.toNat:Int)*256%4294967296=((c.toNat*256:Nat):Int) by omega]
 have e1:a.toNat*16777216 ||| b.toNat*65536=a.toNat*16777216+b.toNat*65536:=by
  have:=u7 a.toNat (b.toNat*65536) 24 (by omega);simpa using this
 rw[j6 _ _ (by omega) (by omega),e1]
 have e2:(a.toNat*16777216+b.toNat*65536) ||| c.toNat*256=a.toNat*16777216+b.toNat*65536+c.toNat*256:=by
  have:=u7 (a.toNat*256+b.toNat) (c.toNat*256) 16 (by omega);rw[show (a.toNat*256+b.toNat)*2^16=a.toNat*16777216+b.toNat*65536 by omega] at this;exact this
 rw[j6 _ _ (by omega) (by omega),e2]
 have e3:(a.toNat*16777216+b.toNat*65536+c.toNat*256) ||| d.toNat=a.toNat*16777216+b.toNat*65536+c.toNat*256+d.toNat:=by
  have:=u7 (a.toNat*65536+b.toNat*256+c.toNat) d.toNat 8 (by omega);rw[show (a.toNat*65536+b.toNat*256+c.toNat)*2^8=a.toNat*16777216+b.toNat*65536+c.toNat*256 by omega] at this;exact this
 rw[j6 _ _ (by omega) (by omega),e3,be4]
theorem SZ (a b c d:UInt8):bits .or .u32 (bits .or .u32 (bits .or .u32 ((a.toNat:Int)%4294967296*16777216%4294967296) ((b.toNat:Int)%4294967296*65536%4294967296)) ((c.toNat:Int)%4294967296*256%4294967296)) ((d.toNat:Int)%4294967296)=((dY [a,b,c,d]:Nat):Int):=by
 have ha:=a.toNat_lt;have hb:=b.toNat_lt;have hc:=c.toNat_lt;have hd:=d.toNat_lt;rw[show (a.toNat:Int)%4294967296=a.toNat by omega,show (b.toNat:Int)%4294967296=b.toNat by omega,show (c.toNat:Int)%4294967296=c.toNat by omega,show (d.toNat:Int)%4294967296=d.toNat by omega];exact X8 a b c d
def fF (n:Nat):List UInt8:=[UInt8.ofNat (n/16777216),UInt8.ofNat (n/65536),UInt8.ofNat (n/256),UInt8.ofNat n]
theorem Oq (n:Nat) (h:n<4294967296):dY (fF n)=n:=by
 rw[fF,be4];simp only[agp];omega
theorem tO (A:Option Addr) (n c:Nat) (a b x d:UInt8) (bs:List UInt8) (w:World) (hs:Sl w w.heap.size A (B8 (a::b::x::d::bs))) (hn:n=bs.length+4):
 Calls Tryz.prog 100 #[.slice A n c] w fun e W'=>e=.returned (.int .u32 (dY [a,b,x,d]:Nat))∧Below w.heap.size w W':=by
 have bW:Tryz.prog.follows .mixedOrders=true:=by kernel_rfl
 obtain⟨b0,o0,rfl,bL,aD⟩:=hs.at_ (k:=0) (by simp);have c0:w.cell? ⟨b0,o0,none⟩=some (.int .u8 (a.toNat:Int)):=aD 0 (by simp);have c1:w.cell? ⟨b0,o0+1,none⟩=some (.int .u8 (b.toNat:Int)):=aD 1 (by simp);have c2:w.cell? ⟨b0,o0+2,none⟩=some (.int .u8 (x.toNat:Int)):=aD 2 (by simp);have c3:w.cell? ⟨b0,o0+3,none⟩=some (.int .u8 (d.toNat:Int)):=aD 3 (by simp);obtain⟨v,hv⟩:∃v,v=dY [a,b,x,d]:=⟨_,rfl⟩;have Mx:=SZ a b x d;rw[←hv] at Mx⊢;have zL:0<n:=by omega
 have hn3:3<n:=by omega
 clear aD hs hv hn;go_enter Tryz.func100,Tryz.ntmps100;go_wp2_with fail;refine an [(0,0),(1,0),(2,1),(3,0),(4,0),(5,0),(6,0),(7,1),(8,0),(9,0),(10,0),(11,0),(12,0),(13,1),(14,0),(15,0),(16,0),(17,0),(18,0),(19,1),(20,0),(21,0),(22,0)] 23 bW (by kernel_rfl) (by intro c a d v w h;cases d<;>exact h) ?_
 repeat ((first|refine ag rfl fun K hK=>?_|refine af rfl fun K hK=>?_);go_simp;(first|refine hK _ ?_|(simp only[IntWalk.iteOmega];go_simp;refine hK _ ?_)|(go_bits;go_simp;refine hK _ ?_));clear hK K;try go_bits)
 refine ak ?_;go_wp2_with fail;go_ret;exact⟨rfl,(af5 _ w).drew⟩
theorem Dc (n:Nat) (hn:n<4294967296) (w:World):
 Calls Tryz.prog 79 #[.int .u32 n] w fun e W'=>∃v,e=.returned v∧Ow W' w.heap.size 5 v (B8 (fF n))∧Below w.heap.size w W':=by
 go_enter Tryz.func79,Tryz.ntmps79;go_wp2_with fail;go_ret
 have hq:(#[.int .u8 ((n:Int)/16777216),.int .u8 ((n:Int)/65536%256),.int .u8 ((n:Int)/256%256),.int .u8 ((n:Int)%256)]:Array Value)=(B8 (fF n)).toArray:=by
  simp only[fF,B8,List.map,agp];rw[show ((n/16777216%2^8:Nat):Int)=(n:Int)/16777216 by omega,show ((n/65536%2^8:Nat):Int)=(n:Int)/65536%256 by omega,show ((n/256%2^8:Nat):Int)=(n:Int)/256%256 by omega,show ((n%2^8:Nat):Int)=(n:Int)%256 by omega]
 rw[hq];refine⟨_,rfl,?_,(af5 _ w).alloc (af2 _) _⟩;have h:=Ow.of_row (w:=w) (cap:=4) (B8 (fF n)).toArray 5 w.heap.size (af2 _) (by simp[fF]) (by decide) 4 (af2 _);have e:(B8 (fF n)).toArray.toList.take 4=B8 (fF n):=by simp[fF,B8]
 rw[e] at h;exact h
def jU:List UInt8:=[39,104,72]
theorem Fx (c:UInt8):cC jU c=if cc c then ((jU.idxOf c:Nat):Int) else-1:=by
 unfold cC cc jU
 by_cases h1:c=39
 · simp[h1]
 by_cases h2:c=104
 · simp[h2]
 by_cases h3:c=72<;>simp[h1,h2,h3]
theorem S2 (V:Nat) (h:V<2147483648):bits .or .u32 ((V:Int)%4294967296) 2147483648=((V+2147483648:Nat):Int):=by
 rw[show (V:Int)%4294967296=V by omega];have e:=u7 1 V 31 (by omega);rw[show (2147483648:Int)=((2147483648:Nat):Int) from rfl,j6 _ _ (by omega) (by omega),Nat.or_comm];rw[show (2147483648:Nat)=1*2^31 from rfl,e];congr 1;omega
theorem S3 (V:Nat) (h:V<2147483648):bits .or .u32 ((V:Int)%4294967296) 0=(V:Int):=by
 rw[show (V:Int)%4294967296=V by omega];rw[show (0:Int)=((0:Nat):Int) from rfl,j6 _ _ (by omega) (by omega),Nat.or_zero]
theorem tP {T:List UInt8} (h:T=[]∨(T.head?=some 48∧1<T.length)):bH T=(3,0):=by rw[bH,if_pos h]
theorem oa {T:List UInt8} (c:UInt8) (hc:c∈T) (hd:ek c=false):bH T=(3,0):=by
 unfold bH;split
 · rfl
 rw[if_neg];intro h;have:=List.all_eq_true.1 h c hc;rw[hd] at this;exact absurd this (by decide)
theorem tQ {T:List UInt8} (h:¬(T=[]∨(T.head?=some 48∧1<T.length))) (ha:∀c∈T,ek c=true):bH T=if jS T<2147483648 then (0,jS T) else (2,0):=by
 rw[bH,if_neg h,if_pos (List.all_eq_true.2 ha)]
theorem Kv (s:ByteArray) (hsz:s.size≤4096) (w:World):
 Calls Tryz.prog 146 #[.string s] w fun e w'=>e=.returned (.tuple #[.int .u32 ((a8 s.data.toList).2:Int),.int .i64 ((a8 s.data.toList).1:Int)])∧w'=w:=by
 obtain⟨S,hS⟩:=ab s.data.toList;have sU:S.length=s.size:=by rw[hS];simp
 obtain⟨R,hR⟩:=ab (a8 S);rw[←hS,←hR]
 by_cases h0:s.size=0
 · have vq:s=⟨#[]⟩:=by
    apply ByteArray.ext;exact Array.eq_empty_of_size_eq_zero h0
   subst vq;have x4:R=(3,0):=by rw[hR,hS];rfl
   subst x4;clear hS sU hR h0;go_enter Tryz.func146,Tryz.ntmps146;go_wp2;go_ret2;exact⟨rfl,rfl⟩
 have od:0<s.size:=by omega
 obtain⟨m,hm⟩:∃m,s.size=m+1:=⟨s.size-1,by omega⟩;have hms:m<s.size:=by omega
 obtain⟨c,hc⟩:∃c,c=s[m]:=⟨_,rfl⟩;have Ev:∀h,s[m]'h=c:=fun h=>hc.symm
 have dt:S≠[]:=fun e=>by rw[e] at sU;simp at sU;omega
 have ni:S.getLastD 0=c:=by
  rw[List.getLastD_eq_getLast?,List.getLast?_eq_getElem?,sU,hm,Nat.add_sub_cancel,hS,hc];simp[hms];rfl
 have mM:=Tryz.strings_IndexByte ⟨jU.toArray⟩ (c.toNat:Int);rw[show (⟨jU.toArray⟩:ByteArray).data.toList=jU from rfl,fc,show ((c.toNat:Int)).toNat.toUInt8=c from by simp,Fx] at mM;have uW:=aa mM;have hmi:((s.size:Int)-1)=(m:Int):=by omega
 have Hm:=aa hm
 by_cases hh:cc c=true
 · rw[if_pos hh] at uW
   obtain⟨ip,BU⟩:=ab (jU.idxOf c);rw[←BU] at uW;obtain⟨t,ht⟩:=ab (s.extract 0 m);have het:s.extract 0 m=t:=ht.symm;obtain⟨T,hT⟩:=ab t.data.toList
   have hTd:T=S.dropLast:=by
    rw[hT,ht,Lib.extract_data,List.drop_zero,List.dropLast_eq_take,sU,hm,hS];simp
   have yg:=aa (show R=if (bH T).1=0 then (0,(bH T).2+2147483648) else ((bH T).1,0) by rw[hR,a8,if_pos ⟨dt,by rw[ni];exact hh⟩,hTd])
   have Ew:t.size≤4096:=by
    have h1:T.length=t.size:=by rw[hT];simp
    rw[hTd,List.length_dropLast,sU] at h1;omega
   have HT:=aa hT;have ae6:m≤s.size:=by omega
   clear hS sU hR h0 mM hm hc BU ht hT hTd ni dt;have Hts:=aa Ew;have AB:T.length=t.size:=by rw[HT.out];simp
   have Kw:=aa AB;clear AB
   by_cases hb:T=[]∨(T.head?=some 48∧1<T.length)
   · have lf:=aa (tP hb)
     by_cases he:T=[]
     · have Sh:t.toList.isEmpty=true:=by rw[agt,←HT.out,he];rfl
       have ac9:t.toList=[]:=by rw[agt,←HT.out,he]
       clear hb he
       (go_enter Tryz.func146,Tryz.ntmps146;go_wp2_with (go_at_call 32;refine(uW.out _).mono ?_;rintro e w' ⟨rfl,bD⟩;rw[bD];clear bD))
       go_ret2;exact⟨by rw[yg.out,lf.out];rfl,rfl⟩
     have od:0<t.size:=by
      have:=Kw.out;have:=List.length_pos_iff.2 he;omega
     have h2:T.head?=some 48∧1<T.length:=hb.resolve_left he;have nt:1<t.size:=by have:=Kw.out;omega
     have Sh:t.toList.isEmpty=false:=by
      rw[agt,←HT.out]
      cases T with|nil=>exact absurd rfl he|cons=>rfl
     have j8:∀h:0<t.size,(t[0]'h).toNat=48:=fun h=>by
      have h3:=h2.1;rw[List.head?_eq_getElem?,HT.out] at h3;rw[show t.data.toList[0]?=some (t[0]'h) by simp[h];rfl] at h3
      rw[Option.some.inj h3];rfl
     have ada:(1:Int)<(t.size:Int):=by omega
     clear hb h2 he
     (go_enter Tryz.func146,Tryz.ntmps146;go_wp2_with (go_at_call 32;refine(uW.out _).mono ?_;rintro e w' ⟨rfl,bD⟩;rw[bD];clear bD))
     go_ret2;exact⟨by rw[yg.out,lf.out];rfl,rfl⟩
   have he:T≠[]:=fun h=>hb (.inl h)
   have od:0<t.size:=by
    have:=Kw.out;have:=List.length_pos_iff.2 he;omega
   have Sh:t.toList.isEmpty=false:=by
    rw[agt,←HT.out]
    cases T with|nil=>exact absurd rfl he|cons=>rfl
   have Mx:(∀h:0<t.size,¬((t[0]'h).toNat:Int)=48)∨((∀h:0<t.size,(t[0]'h).toNat=48)∧¬(1:Int)<(t.size:Int)):=by
    have h0:T.head?=some (t[0]'od):=by
     rw[List.head?_eq_getElem?,HT.out];simp[od];rfl
    by_cases j8:(t[0]'od).toNat=48
    · refine .inr ⟨fun _=>j8,?_⟩
      have h1:t[0]'od=48:=UInt8.toNat_inj.1 (by rw[j8];rfl)
      rw[h1] at h0;intro h2;exact hb (.inr ⟨h0,by have:=Kw.out;omega⟩)
    exact .inl fun _ h2=>j8 (by omega)
   have Hb:=aa hb;clear hb he;rcases Mx with hx|⟨hx,hyy⟩
   all_goals
    (go_enter Tryz.func146,Tryz.ntmps146;go_wp2_with (go_at_call 32;refine(uW.out _).mono ?_;rintro e w' ⟨rfl,bD⟩;rw[bD];clear bD))
    go_loop [2,3,6,38] (fun a b x i=>∃k:Nat,k≤t.size∧i=.int .i64 k∧a=.int .u32 0∧b=.int .i64 0∧x=.int .u64 (jS (T.take k):Nat)∧Hid (∀c∈T.take k,ek c=true)) (fun _ _ _ i=>t.size-(intOf i).toNat)
    case atStart=>exact⟨0,agu _,rfl,rfl,rfl,rfl,aa (by simp)⟩
    case round=>
     obtain⟨k,hk,rfl,rfl,rfl,rfl,fN⟩:=hrel;obtain⟨V,hV⟩:=ab (jS (T.take k));have Ot:V≤2147483648:=by rw[hV];exact Iu _
     rw[←hV];have HV:=aa hV;clear hV hx
     by_cases aL:k<t.size
     · obtain⟨y,hy⟩:∃y,y=t[k]:=⟨_,rfl⟩
       have ye:∀h,t[k]'h=y:=fun h=>hy.symm
       have X9:T.take (k+1)=T.take k++[y]:=by
        rw[agh (by have:=Kw.out;omega),hy];simp only[HT.out];rfl
       have My:=aa X9;have hyT:y∈T:=List.mem_of_mem_take (i:=k+1) (by rw[X9];simp);have HyT:=aa hyT;have CW:=y.toNat_lt;clear hy X9 hyT
       by_cases hd:ek y=true
       · have pQ:48≤y.toNat∧y.toNat≤57:=by simpa [ek] using hd
         have adb:=pQ.1;have ade:=pQ.2;have Hd:=aa hd;have HV':Hid (jS (T.take (k+1))=min (V*10+(y.toNat-48)) 2147483648):=aa (by rw[My.out,l6,HV.out]);clear hd pQ;go_wp2
         exact⟨⟨k+1,by omega,rfl,rfl,rfl,by rw[HV'.out];congr 1;omega,aa (by
          rw[My.out];intro c hc;simp only[List.mem_append,agE] at hc;rcases hc with hc|rfl
          · exact fN.out c hc
          exact Hd.out)⟩,by simp[intOf];omega⟩
       have pQ:y.toNat<48∨57<y.toNat:=by
        simp[ek] at hd;omega
       have lf:=aa (oa y HyT.out (by simpa using hd));clear hd;rcases pQ with h|h
       all_goals
        go_wp2;go_ret2;exact⟨by rw[yg.out,lf.out];rfl,rfl⟩
     obtain rfl:k=t.size:=by omega
     have Rx:T.take t.size=T:=af7 (by have:=Kw.out;omega)
     have Ou:bH T=if V<2147483648 then (0,V) else (2,0):=by
      rw[tQ Hb.out (by have:=fN.out;rwa [Rx] at this),HV.out,Rx]
     have Ov:=aa Ou;clear Ou Rx aL
     by_cases vS:V<2147483648
     · have lf:=aa (show bH T=(0,V) by rw[Ov.out,if_pos vS])
       have Ya:decide ((2147483648:Int)≤(V:Int))=false:=af8 (by omega);have Mx:=S2 V vS;clear Ot vS hk Hts Hb HV;go_wp2;go_ret2;exact⟨by rw[yg.out,lf.out];rfl,rfl⟩
     have lf:=aa (show bH T=(2,0) by rw[Ov.out,if_neg vS]);have Ya:decide ((2147483648:Int)≤(V:Int))=true:=af9 (by omega);clear Ot vS hk Hts Hb HV;go_wp2;go_ret2;exact⟨by rw[yg.out,lf.out];rfl,rfl⟩
 rw[if_neg hh] at uW;have yg:=aa (show R=bH S by rw[hR,a8,if_neg (by rw[ni];exact fun h=>hh h.2)]);obtain⟨T,hTS⟩:=ab S;rw[←hTS] at yg hS;have HT:=aa hS;clear hS sU hR h0 mM hm hc ni dt hTS;have Hts:=aa hsz;have AB:T.length=s.size:=by rw[HT.out];simp
 have Kw:=aa AB;clear AB
 by_cases hb:T=[]∨(T.head?=some 48∧1<T.length)
 · have lf:=aa (tP hb)
   by_cases he:T=[]
   · have Sh:s.toList.isEmpty=true:=by rw[agt,←HT.out,he];rfl
     have ac9:s.toList=[]:=by rw[agt,←HT.out,he]
     clear hb he
     (go_enter Tryz.func146,Tryz.ntmps146;go_wp2_with (go_at_call 32;refine(uW.out _).mono ?_;rintro e w' ⟨rfl,bD⟩;rw[bD];clear bD))
     go_ret2;exact⟨by rw[yg.out,lf.out];rfl,rfl⟩
   have od:0<s.size:=by
    have:=Kw.out;have:=List.length_pos_iff.2 he;omega
   have h2:T.head?=some 48∧1<T.length:=hb.resolve_left he;have nt:1<s.size:=by have:=Kw.out;omega
   have Sh:s.toList.isEmpty=false:=by
    rw[agt,←HT.out]
    cases T with|nil=>exact absurd rfl he|cons=>rfl
   have j8:∀h:0<s.size,(s[0]'h).toNat=48:=fun h=>by
    have h3:=h2.1;rw[List.head?_eq_getElem?,HT.out] at h3;rw[show s.data.toList[0]?=some (s[0]'h) by simp[h];rfl] at h3
    rw[Option.some.inj h3];rfl
   have ada:(1:Int)<(s.size:Int):=by omega
   clear hb h2 he
   (go_enter Tryz.func146,Tryz.ntmps146;go_wp2_with (go_at_call 32;refine(uW.out _).mono ?_;rintro e w' ⟨rfl,bD⟩;rw[bD];clear bD))
   go_ret2;exact⟨by rw[yg.out,lf.out];rfl,rfl⟩
 have he:T≠[]:=fun h=>hb (.inl h)
 have od:0<s.size:=by
  have:=Kw.out;have:=List.length_pos_iff.2 he;omega
 have Sh:s.toList.isEmpty=false:=by
  rw[agt,←HT.out]
  cases T with|nil=>exact absurd rfl he|cons=>rfl
 have Mx:(∀h:0<s.size,¬((s[0]'h).toNat:Int)=48)∨((∀h:0<s.size,(s[0]'h).toNat=48)∧¬(1:Int)<(s.size:Int)):=by
  have h0:T.head?=some (s[0]'od):=by
   rw[List.head?_eq_getElem?,HT.out];simp[od];rfl
  by_cases j8:(s[0]'od).toNat=48
  · refine .inr ⟨fun _=>j8,?_⟩
    have h1:s[0]'od=48:=UInt8.toNat_inj.1 (by rw[j8];rfl)
    rw[h1] at h0;intro h2;exact hb (.inr ⟨h0,by have:=Kw.out;omega⟩)
  exact .inl fun _ h2=>j8 (by omega)
 have Hb:=aa hb;clear hb he;rcases Mx with hx|⟨hx,hyy⟩
 all_goals
  (go_enter Tryz.func146,Tryz.ntmps146;go_wp2_with (go_at_call 32;refine(uW.out _).mono ?_;rintro e w' ⟨rfl,bD⟩;rw[bD];clear bD))
  go_loop [2,3,6,38] (fun a b x i=>∃k:Nat,k≤s.size∧i=.int .i64 k∧a=.int .u32 0∧b=.int .i64 0∧x=.int .u64 (jS (T.take k):Nat)∧Hid (∀c∈T.take k,ek c=true)) (fun _ _ _ i=>s.size-(intOf i).toNat)
  case atStart=>exact⟨0,agu _,rfl,rfl,rfl,rfl,aa (by simp)⟩
  case round=>
   obtain⟨k,hk,rfl,rfl,rfl,rfl,fN⟩:=hrel;obtain⟨V,hV⟩:=ab (jS (T.take k));have Ot:V≤2147483648:=by rw[hV];exact Iu _
   rw[←hV];have HV:=aa hV;clear hV hx
   by_cases aL:k<s.size
   · obtain⟨y,hy⟩:∃y,y=s[k]:=⟨_,rfl⟩
     have ye:∀h,s[k]'h=y:=fun h=>hy.symm
     have X9:T.take (k+1)=T.take k++[y]:=by
      rw[agh (by have:=Kw.out;omega),hy];simp only[HT.out];rfl
     have My:=aa X9;have hyT:y∈T:=List.mem_of_mem_take (i:=k+1) (by rw[X9];simp);have HyT:=aa hyT;have CW:=y.toNat_lt;clear hy X9 hyT
     by_cases hd:ek y=true
     · have pQ:48≤y.toNat∧y.toNat≤57:=by simpa [ek] using hd
       have adb:=pQ.1;have ade:=pQ.2;have Hd:=aa hd;have HV':Hid (jS (T.take (k+1))=min (V*10+(y.toNat-48)) 2147483648):=aa (by rw[My.out,l6,HV.out]);clear hd pQ;go_wp2
       exact⟨⟨k+1,by omega,rfl,rfl,rfl,by rw[HV'.out];congr 1;omega,aa (by
        rw[My.out];intro c hc;simp only[List.mem_append,agE] at hc;rcases hc with hc|rfl
        · exact fN.out c hc
        exact Hd.out)⟩,by simp[intOf];omega⟩
     have pQ:y.toNat<48∨57<y.toNat:=by
      simp[ek] at hd;omega
     have lf:=aa (oa y HyT.out (by simpa using hd));clear hd;rcases pQ with h|h
     all_goals
      go_wp2;go_ret2;exact⟨by rw[yg.out,lf.out];rfl,rfl⟩
   obtain rfl:k=s.size:=by omega
   have Rx:T.take s.size=T:=af7 (by have:=Kw.out;omega)
   have Ou:bH T=if V<2147483648 then (0,V) else (2,0):=by
    rw[tQ Hb.out (by have:=fN.out;rwa [Rx] at this),HV.out,Rx]
   have Ov:=aa Ou;clear Ou Rx aL
   by_cases vS:V<2147483648
   · have lf:=aa (show bH T=(0,V) by rw[Ov.out,if_pos vS])
     have Ya:decide ((2147483648:Int)≤(V:Int))=false:=af8 (by omega);have Mx:=S3 V vS;clear Ot vS hk Hts Hb HV;go_wp2;go_ret2;exact⟨by rw[yg.out,lf.out];rfl,rfl⟩
   have lf:=aa (show bH T=(2,0) by rw[Ov.out,if_neg vS]);have Ya:decide ((2147483648:Int)≤(V:Int))=true:=af9 (by omega);clear Ot vS hk Hts Hb HV;go_wp2;go_ret2;exact⟨by rw[yg.out,lf.out];rfl,rfl⟩
end Go.Proofs.YtcjioogololnoaaGreatDoor
namespace Go.Proofs.YtcjioogololnoaaGreatDoor
open Go Go.RowKit Go.Shelf
theorem De (off:Nat):∀(vs:List Value) (k:Nat) (cells:Array Value),off+k+vs.length≤cells.size→
 (vs.zipIdx k).foldl (fun cs (cj:Value×Nat)=>cs.setIfInBounds (off+cj.2) cj.1) cells=(cells.toList.take (off+k)++(vs++cells.toList.drop (off+k+vs.length))).toArray
 |[],k,cells,h=>by simp
 |v::vs,k,cells,h=>by
  have hl:off+k<cells.size:=by simp at h;omega
  rw[List.zipIdx_cons,List.foldl_cons,De off vs (k+1) _ (by simp at h⊢;omega)];congr 1
  have e1:(cells.setIfInBounds (off+k) v).toList.take (off+(k+1))=cells.toList.take (off+k)++[v]:=by
   rw[Array.toList_setIfInBounds,show off+(k+1)=off+k+1 by omega,agh (by simpa using hl),List.take_set_of_le (af2 _),List.getElem_set_self]
  have e2:(cells.setIfInBounds (off+k) v).toList.drop (off+(k+1)+vs.length)=cells.toList.drop (off+k+(v::vs).length):=by
   rw[Array.toList_setIfInBounds,List.drop_set_of_lt (by omega)];congr 1;simp;omega
  show _++_=_;rw[e1,e2];simp
theorem KC (place:Nat→Option (Nat×Nat)) (cells:Array Value) (i off size:Nat) (v:Value) (rest:List (Nat×Value)) (hp:place i=some (off,size)) (hv:v.cells.size=size) (hc:off+size≤cells.size):
 Instr.fill place cells ((i,v)::rest)=Instr.fill place (cells.toList.take off++(v.cells.toList++cells.toList.drop (off+size))).toArray rest:=by
 rw[Instr.fill,hp];simp only[hv,ne_eq,not_true_eq_false,decide_false,Bool.false_or];rw[if_neg (by simp;omega)];congr 1;have h:=De off v.cells.toList 0 cells (by simp[hv];omega);simp only[Nat.add_zero] at h;rw[show v.cells.toList.length=size by simp[hv]] at h;rw[←h,←Array.foldl_toList,Array.toList_zipIdx]
theorem fe (place:Nat→Option (Nat×Nat)) (i:Nat) (v:Value) (rest:List (Nat×Value)) (pre yD post:List Value) (hp:place i=some (pre.length,yD.length)) (hv:v.cells.size=yD.length):
 Instr.fill place (pre++(yD++post)).toArray ((i,v)::rest)=Instr.fill place (pre++(v.cells.toList++post)).toArray rest:=by
 rw[KC place _ i pre.length yD.length v rest hp hv (by simp)];congr 2;simp
section
variable {P:Program} {ops:Array Oper} {N:Nat} {Q:Act→World→Prop} {st:Nat→(Act→World→Prop)→Act→World→Prop}
theorem jV {i:Nat} {rest:List (Nat×Nat)} {o:Oper} {a:Act} {w:World} (ho:ops[i]?=some o) (tF:o.guard=none) (arr:TypeId) (x:Operand) (xX:o.op=.sliceToArrayPointer arr x) (p:Option Addr) (len cap n:Nat) (e:TypeId) (hx:a.eval x=.slice p len cap)
 (hu:P.underlying arr=some (.array n e)) (hl:n≤len) (h:ay P ops Q st N rest (a.put o.dst (.pointer p)) w):
 ay P ops Q st N ((i,0)::rest) a w:=by
 simp only[ay,if_true,ho];refine⟨.pointer p,.inl ⟨by simp[Region.wanted,tF],fun w' _=>?_⟩,h⟩;unfold execOp;simp only[xX,hx,Sem.run_bind,rF p len cap w' hu hl,Result.andThen_ok];rfl
theorem pW {i:Nat} {rest:List (Nat×Nat)} {o:Oper} {a:Act} {w:World} (ho:ops[i]?=some o) (tF:o.guard=none) (t:TypeId) (parts:Array (Nat×Operand)) (xX:o.op=.build t parts) (cells:Array Value)
 (hf0:P.built t (parts.toList.map fun (i,x)=>(i,a.eval x))=some cells) (h:ay P ops Q st N rest (a.put o.dst (.agg cells)) w):
 ay P ops Q st N ((i,0)::rest) a w:=by
 have hf:P.built t (parts.map fun (i,x)=>(i,a.eval x)).toList=some cells:=by rw[Array.toList_map];exact hf0
 simp only[ay,if_true,ho];refine⟨.agg cells,.inl ⟨by simp[Region.wanted,tF],fun w' _=>?_⟩,h⟩;unfold execOp;simp only[xX,Sem.run_bind,run_build w' t _ cells hf,Result.andThen_ok];rfl
end
section
variable {P:Program} {ops:Array Oper} {rest:List Oper} {o:Oper} {a:Act} {w:World} {Q:Exit→Act→World→Prop}
theorem cF (hw:Region.wanted o (yielded ops a.tmps)=true) (ty:TypeId) (x:Operand) (ho:o.op=.load ty x)
 (g:Nat) (hx:a.eval x=.pointer (some ⟨g,0,none⟩)) (t:TypeId) (cs:Array Value) (fr:Nat×Nat) (d:TypeDesc) (hg:w.heap[g]?=some (.cells cs t fr))
 (hu:P.underlying ty=some d) (hd:(match d with|.struct _|.array _ _=>true|_=>false)=true) (hi:(P.info? ty).map (·.size)=some cs.size)
 (h:wpList P ops Q rest (a.put o.dst (.agg cs)) w):wpList P ops Q (o::rest) a w:=
 BigFrame.wpList_want hw fun _ hK=>wp_load_row ty x ho g hx t cs fr d hg hu hd hi (hK _ _ h)
theorem bj (hw:Region.wanted o (yielded ops a.tmps)=true) (ty:TypeId) (x:Operand) (ho:o.op=.load ty x) (b off:Nat) (hx:a.eval x=.pointer (some ⟨b,off,none⟩)) (S8:List Value) (d:TypeDesc) (hr:w.rangeAt b off S8)
 (hu:P.underlying ty=some d) (hd:d.isRow=true) (hi:(P.info? ty).map (·.size)=some S8.length)
 (h:wpList P ops Q rest (a.put o.dst (.agg S8.toArray)) w):wpList P ops Q (o::rest) a w:=
 BigFrame.wpList_want hw fun _ hK=>wp_load_mid ty x ho b off hx S8 d hr hu hd hi (hK _ _ h)
end
def aP:HKey:=⟨0,[0,0,0,0],0,List.replicate 32 0,List.replicate 33 0⟩
theorem cI:aP.Ok:=⟨rfl,by simp[aP],by simp[aP],by decide⟩
theorem AQ (parts:List (Nat×Value)):Tryz.prog.built 59 parts=Instr.fill (fun x=>(#[(0,1),(1,4),(5,1),(6,32),(38,33)]:Array (Nat×Nat))[x]?) (ba aP).toArray parts:=by kernel_rfl
theorem KD (k:HKey) (hk:k.Ok):Tryz.prog.built 59 [(0,.int .u8 (k.depth.toNat:Int)),(1,.agg (B8 k.finger).toArray),(2,.int .u32 (k.child:Int)),(3,.agg (B8 k.chain).toArray),(4,.agg (B8 k.data).toArray)]=some (ba k).toArray:=by
 rw[AQ];have e0:(ba aP).toArray=([]++([Value.int .u8 0]++(B8 aP.finger++([Value.int .u32 0]++(B8 aP.chain++B8 aP.data))))).toArray:=rfl;rw[e0,fe _ 0 _ _ [] [.int .u8 0] _ rfl rfl];rw[agJ,fe _ 1 _ _ _ (B8 aP.finger) _ rfl (by simp[Value.cells,hk.finger,cI.finger])];rw[←agL,fe _ 2 _ _ _ [.int .u32 0] _ (by simp[Value.cells,hk.finger]) rfl];rw[←agL,fe _ 3 _ _ _ (B8 aP.chain) _ (by simp[Value.cells,hk.finger,aP]) (by simp[Value.cells,hk.chain,cI.chain])];rw[←agL,←List.append_nil (B8 aP.data),fe _ 4 _ _ _ (B8 aP.data) [] (by simp[Value.cells,hk.finger,hk.chain,aP]) (by simp[Value.cells,hk.data,cI.data])];rw[Instr.fill];simp[Value.cells,ba]
end Go.Proofs.YtcjioogololnoaaGreatDoor
namespace Go.Proofs.YtcjioogololnoaaGreatDoor
open Go Go.RowKit Go.Shelf
def fU (b:List UInt8):HKey:=⟨b.getD 4 0,(b.drop 5).take 4,dY ((b.drop 9).take 4),(b.drop 13).take 32,b.drop 45⟩
def eb (p:Bool):Nat:=if p then 76066276 else 76067358
def qy (k:HKey):Bool:=decide (0<k.depth.toNat)||(decide (k.finger=[0,0,0,0])&&decide (k.child=0))
def ku (b:List UInt8):Nat×HKey:=if b.length=78 then (if decide (dY (b.take 4)=eb (fU b).priv)&&(fU b).good&&qy (fU b) then (0,fU b) else (3,aP)) else (2,aP)
def cM (s:List UInt8):Nat×HKey:=if (ff s).1=0 then ku (ff s).2 else ((ff s).1,aP)
theorem rL (b:List UInt8) (h:b.length=78):(fU b).Ok:=
 ⟨by simp[fU,h],by simp[fU,h],by simp[fU,h],by
  have:=lE ((b.drop 9).take 4);have h4:((b.drop 9).take 4).length=4:=by simp[h]
  rw[h4] at this;exact this⟩
theorem ju (s:List UInt8):(cM s).2.Ok:=by
 unfold cM;split
 · unfold ku
   split
   · split
     · exact rL _ (by assumption)
     exact cI
   exact cI
 exact cI
end Go.Proofs.YtcjioogololnoaaGreatDoor
