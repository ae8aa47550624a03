/- Whoever walks down with the secret signs what whoever walks down without it verifies, and the text of either walks the same way (StrongboxKeyed). No condition. -/
import Derived.Test.YtnlkdheaohocnaaGreatDoorU1
import Derived.Test.YtnlkdheaohocnaaGreatDoorU35
import Derived.Test.YtnlkdheaohocnaaGreatDoorU36
import Derived.Test.YtnlkdheaohocnaaGreatDoorU21
import Derived.Test.YtnlkdheaohocnaaGreatDoorU14
import Derived.Deep.DeepCutAuto
import Derived.Test.YtnlkdheaohocnaaGreatDoorU22
set_option maxRecDepth 1000000
set_option maxHeartbeats 16000000
set_option linter.unusedVariables false
set_option linter.unusedSimpArgs false
namespace Go.Proofs.YtnlkdheaohocnaaGreatDoor
open Go Go.RowKit Go.Shelf
def Dj (V i:Nat):List Nat:=(nu 8 (V/2)).take i++(nu 8 V).drop i
theorem vu (V i:Nat) (h:i≤8):(Dj V i).length=8:=by rw[Dj,adv,adq,adH,bg,bg];omega
theorem Nk (V:Nat):Dj V 0=nu 8 V:=by simp[Dj]
theorem Nl (V:Nat):Dj V 8=nu 8 (V/2):=by
 rw[Dj,ady (by rw[bg];exact adi _),List.drop_eq_nil_of_le (by rw[bg];exact adi _),List.append_nil]
theorem Nn (V i j:Nat) (Od:i≤j) (hj:j<8) (h:j<(Dj V i).length):(Dj V i)[j]=V/2^(32*j)%4294967296:=by
 have hl:((nu 8 (V/2)).take i).length=i:=by rw[adq,bg];omega
 rw[←Cv 8 V j (by rw[bg];exact hj)]
 have e:(Dj V i)[j]?=(nu 8 V)[j]?:=by
  unfold Dj;rw[adC (by omega),List.getElem?_drop];congr 1;omega
 rw[adp h,adp (by rw[bg];exact hj)] at e;exact Option.some.inj e
theorem P6 (V i u:Nat) (hi:i<8):((Dj V i).set i u).set i (V/2/2^(32*i)%4294967296)=Dj V (i+1):=by
 have hl:((nu 8 (V/2)).take i).length=i:=by rw[adq,bg];omega
 have hi2:i<(nu 8 (V/2)).length:=by rw[bg];exact hi
 have hi3:i<(nu 8 V).length:=by rw[bg];exact hi
 rw[List.set_set];unfold Dj;rw[List.set_append_right _ _ (by omega),hl,Nat.sub_self,List.drop_eq_getElem_cons hi3,List.set_cons_zero,adK hi2,Cv,List.append_assoc];rfl
theorem CJ (V i:Nat):V/2/2^(32*i)%4294967296=V/2^(32*i)%4294967296/2+(if V/2^(32*(i+1))%4294967296%2=1 then 2147483648 else 0):=by
 have e1:V/2/2^(32*i)=V/2^(32*i)/2:=by rw[Nat.div_div_eq_div_mul,Nat.div_div_eq_div_mul,Nat.mul_comm]
 have e2:V/2^(32*(i+1))=V/2^(32*i)/4294967296:=by rw[Rl,Nat.mul_comm 4294967296,←Nat.div_div_eq_div_mul]
 rw[e1,e2];generalize V/2^(32*i)=q;split<;>omega
theorem No (V:Nat) (h:V<2^256):V/2/2^(32*7)%4294967296=V/2^(32*7)%4294967296/2:=by
 rw[CJ];have:V/2^(32*(7+1))=0:=Nat.div_eq_of_lt h;rw[this];rfl
def Rws (W:World) (l:List (Nat×Nat)):Prop:=∀p∈l,W.heap[p.1]?=some (.cells (R8 p.2) 92 (0,0))
theorem Rws.below {W W':World} {l:List (Nat×Nat)} (h:Rws W l) (hb:Below W.heap.size W W'):Rws W' l:=fun p hp=>(hb.block _ (cp (h p hp))).trans (h p hp)
theorem Rws.nil (W:World):Rws W []:=fun p hp=>by cases hp
theorem Rws.cons {W:World} {l:List (Nat×Nat)} {g n:Nat} (h:Rws W l) (hg:W.heap[g]?=some (.cells (R8 n) 92 (0,0))):Rws W ((g,n)::l):=fun p hp=>by
 rcases List.mem_cons.1 hp with rfl|hp
 · exact hg
 exact h p hp
theorem Rws.tail {W:World} {l:List (Nat×Nat)} {q:Nat×Nat} (h:Rws W (q::l)):Rws W l:=fun p hp=>h p (List.mem_cons_of_mem _ hp)
theorem Rws.grown {W W':World} {l:List (Nat×Nat)} {g:Nat} (h:Rws W l) (hg:W.grownBy W' (some g)) (bN:∀p∈l,p.1<g):Rws W' l:=fun p hp=>(hg.block _ (cp (h p hp)) (by have:=bN p hp;simp;omega)).trans (h p hp)
theorem Rws.setRow {W:World} {l:List (Nat×Nat)} {g n m:Nat} (h:Rws W ((g,n)::l)) (bN:∀p∈l,p.1<g):Rws (W.setRow g (R8 m)) ((g,m)::l):=fun p hp=>by
 rcases List.mem_cons.1 hp with rfl|hp
 · exact adt _ _ _ _ _ _ (h (g,n) (.head _))
 exact(setRow_other W g p.1 (R8 m) (by have:=bN p hp;omega)).trans (h p (List.mem_cons_of_mem _ hp))
theorem Rws.alloc {W:World} {l:List (Nat×Nat)} (h:Rws W l) (n:Nat):Rws (W.alloc (.cells (R8 n) 92)) ((W.heap.size,n)::l):=by
 refine Rws.cons (h.below ((adl _ _).alloc (adi _) _)) ?_;exact adk W _
theorem Rws.lt {W:World} {l:List (Nat×Nat)} (h:Rws W l):∀p∈l,p.1<W.heap.size:=fun p hp=>cp (h p hp)
theorem P7 {a b:Nat} (ha:a<2^256) (hb:b<2^256) (h:nu 8 a=nu 8 b):a=b:=by
 have:=congrArg wu h;rwa [lA 8 a ha,lA 8 b hb] at this
theorem Np (n:Nat):R8 n=(((nu 8 n).map (fun n:Nat=>(n:Int))).map (Value.int .u32)).toArray:=by rw[R8,dB,List.map_map];rfl
theorem zw {a b:Nat} (ha:a<2^256) (hb:b<2^256):decide ((nu 8 a).map (fun n:Nat=>(n:Int))=(nu 8 b).map (fun n:Nat=>(n:Int)))=decide (a=b):=by
 have:((nu 8 a).map (fun n:Nat=>(n:Int))=(nu 8 b).map (fun n:Nat=>(n:Int)))↔a=b:=by
  constructor
  · intro h
    exact P7 ha hb ((List.map_inj_right (fun a b Ih=>by exact Int.ofNat.inj Ih)).1 h)
  rintro rfl;rfl
 by_cases h:a=b
 · rw[adA (this.2 h),adA h]
 rw[adI (fun e=>h (this.1 e)),adI h]
structure LA (w W:World) (G:Nat) (Z:Array Value) (l:List (Nat×Nat)):Prop where
 hG:w.heap.size≤G
 hb:Below w.heap.size w W
 rr:W.heap[G+1]?=some (.cells Z 94 (0,0))
 rows:Rws W l
 srt:l.Pairwise (fun a b=>b.1<a.1)
 low:∀p∈l,w.heap.size≤p.1∧p.1≠G+1
theorem LA.below {w W W':World} {G:Nat} {Z:Array Value} {l:List (Nat×Nat)} (h:LA w W G Z l) (hb:Below W.heap.size W W'):LA w W' G Z l:=
 ⟨h.hG,h.hb.trans (hb.mono h.hb.size),(hb.block _ (cp h.rr)).trans h.rr,h.rows.below hb,h.srt,h.low⟩
theorem LA.new {w W:World} {G:Nat} {Z:Array Value} {l:List (Nat×Nat)} (h:LA w W G Z l) (n:Nat):LA w (W.alloc (.cells (R8 n) 92)) G Z ((W.heap.size,n)::l):=by
 have bH:Below W.heap.size W (W.alloc (.cells (R8 n) 92)):=(adl _ _).alloc (adi _) _;refine⟨h.hG,h.hb.trans (bH.mono h.hb.size),(bH.block _ (cp h.rr)).trans h.rr,h.rows.alloc n,List.pairwise_cons.2 ⟨fun p hp=>h.rows.lt p hp,h.srt⟩,fun p hp=>?_⟩;rcases List.mem_cons.1 hp with rfl|hp
 · have h1:=cp h.rr
   exact⟨h.hb.size,by show W.heap.size≠G+1;omega⟩
 exact h.low p hp
theorem LA.set {w W:World} {G g n:Nat} {Z:Array Value} {l:List (Nat×Nat)} (h:LA w W G Z ((g,n)::l)) (m:Nat):LA w (W.setRow g (R8 m)) G Z ((g,m)::l):=
 ⟨h.hG,au h.hb (h.low (g,n) (.head _)).1 _,(setRow_other W g (G+1) (R8 m) (fun e=>(h.low (g,n) (.head _)).2 e.symm)).trans h.rr,h.rows.setRow (fun p hp=>(List.pairwise_cons.1 h.srt).1 p hp),
  List.pairwise_cons.2 ⟨(List.pairwise_cons.1 h.srt).1,(List.pairwise_cons.1 h.srt).2⟩,fun p hp=>by
   rcases List.mem_cons.1 hp with rfl|hp
   · exact h.low (g,n) (.head _)
   exact h.low p (List.mem_cons_of_mem _ hp)⟩
theorem LA.grown {w W W':World} {G g n m:Nat} {Z:Array Value} {l:List (Nat×Nat)} (h:LA w W G Z ((g,n)::l)) (hg:W.grownBy W' (some g)) (hr:W'.heap[g]?=some (.cells (R8 m) 92 (0,0))):LA w W' G Z ((g,m)::l):=
 ⟨h.hG,h.hb.grown hg h.hb.size (fun _ e=>by cases e;exact(h.low (g,n) (.head _)).1),(hg.block (G+1) (cp h.rr) (by have:=(h.low (g,n) (.head _)).2;simp only[Option.some.injEq,ne_eq];omega)).trans h.rr,
  Rws.cons (h.rows.tail.grown hg (fun p hp=>(List.pairwise_cons.1 h.srt).1 p hp)) hr,List.pairwise_cons.2 ⟨(List.pairwise_cons.1 h.srt).1,(List.pairwise_cons.1 h.srt).2⟩,fun p hp=>by
   rcases List.mem_cons.1 hp with rfl|hp
   · exact h.low (g,n) (.head _)
   exact h.low p (List.mem_cons_of_mem _ hp)⟩
theorem LA.at_ {w W:World} {G g n:Nat} {Z:Array Value} {l:List (Nat×Nat)} (h:LA w W G Z l) (hm:(g,n)∈l):W.heap[g]?=some (.cells (R8 n) 92 (0,0)):=h.rows (g,n) hm
end Go.Proofs.YtnlkdheaohocnaaGreatDoor
namespace Go.Proofs.YtnlkdheaohocnaaGreatDoor
open Go Go.RowKit Go.Shelf
theorem aag (a b:Nat) (ha:a<2^256) (hb:b<2^256) (W:World):(Op.equalIn 10000 92 (.agg (R8 a)) (.agg (R8 b))).run Tryz.prog W=.ok (decide (a=b)) W:=by
 have h:=kH (P:=Tryz.prog) (q:=.u32) W (t:=92) (e:=27) (n:=8) Tryz.underlying92 Tryz.underlying27 (by kernel_rfl) (by kernel_rfl) ((nu 8 a).map (fun n:Nat=>(n:Int))) ((nu 8 b).map (fun n:Nat=>(n:Int))) (by simp[bg]) (by simp[bg]);rw[zw ha hb] at h;rw[Np,Np];exact h
theorem Gr {neq:Bool} {o:Oper} {ρ:Operand→Value} {x y:Operand} (cK:o.op=.binOp (if neq then .neq else .eql) 92 x y 92) {c d:Nat} (hc:c<2^256) (hd:d<2^256) (hx:ρ x=.agg (R8 c)) (hy:ρ y=.agg (R8 d)) {b:Bool} (hb:decide (c=d)=b) (W:World):(execOp ρ o).run Tryz.prog W=.ok (.value (.bool (if neq then !b else b))) W:=by
 have h:=aag c d hc hd W;rw[hb] at h;have H:=ab h;unfold execOp;rw[cK];simp only[hx,hy];clear hx hy h hb;obtain⟨A,hA⟩:=ae (R8 c);obtain⟨B,hB⟩:=ae (R8 d);rw[←hA,←hB] at H⊢;have h:=H.out;clear hA hB H
 cases neq<;>go_simp
section
variable {ops:Array Oper} {w:World} {o:Oper} {a:Act} {R:Act→World→Prop} {st:Nat→(Act→World→Prop)→Act→World→Prop} {i d:Nat} {rest:List (Nat×Nat)} {l:List (Nat×Value)}
theorem CM (ho:ops[i]?=some o) (hg:o.guard=none) (hd:o.dst=some d) (aV:Nat.blt d a.tmps.size=true) (x y:Operand) (cK:o.op=.binOp .neq 92 x y 92)
 {c e:Nat} (hc:c<2^256) (he:e<2^256) (hx:ev a l x=.agg (R8 c)) (hy:ev a l y=.agg (R8 e)) {b:Bool} (hb:decide (c=e)=b) (h:ai Tryz.prog ops R st a w rest ((d,.bool (!b))::l)):ai Tryz.prog ops R st a w ((i,0)::rest) l:=
 cW ho hg hd aV _ (fun _ hρ W=>Gr (neq:=true) cK hc he ((hρ _).trans hx) ((hρ _).trans hy) hb W) h
theorem Gs (ho:ops[i]?=some o) (hg:o.guard=none) (hd:o.dst=some d) (aV:Nat.blt d a.tmps.size=true) (x y:Operand) (cK:o.op=.binOp .eql 92 x y 92)
 {c e:Nat} (hc:c<2^256) (he:e<2^256) (hx:ev a l x=.agg (R8 c)) (hy:ev a l y=.agg (R8 e)) {b:Bool} (hb:decide (c=e)=b) (h:ai Tryz.prog ops R st a w rest ((d,.bool b)::l)):ai Tryz.prog ops R st a w ((i,0)::rest) l:=
 cW ho hg hd aV _ (fun _ hρ W=>Gr (neq:=false) cK hc he ((hρ _).trans hx) ((hρ _).trans hy) hb W) h
end
theorem Mem.setW {w0 w:World} {L:List (Nat×TypeId×Array Value)} (h:Mem w0 w L) (k:Nat) {g:Nat} {t:TypeId} {T:List Nat} (e:L[k]?=some (g,t,(dB T).toArray)) (j v:Nat):Mem w0 (w.setCell ⟨g,j,none⟩ (.int .u32 (v:Int))) (L.set k (g,t,(dB (T.set j v)).toArray)):=by
 have:=h.setD k e j (.int .u32 (v:Int));rwa [show (dB T).set j (.int .u32 (v:Int))=dB (T.set j v) from by simp[dB,List.map_set]] at this
theorem Nq (X:Fin ak) (odd:Bool) (w:World):Calls Tryz.prog 88 #[.agg (R8 X.val),.bool odd] w fun e W'=>e=.returned (.tuple #[.agg (if cb X.val then rA X.val (eR X.val (if odd then 1 else 0)) 1 else rA 0 0 0),.bool (cb X.val)])∧Below w.heap.size w W':=by
 have bx:Tryz.prog.follows .mixedOrders=true:=by kernel_rfl
 have HM:=ab (Mem.start w);obtain⟨E,hE⟩:∃E,E=(ak+1)/2^2:=⟨_,rfl⟩;have nU:E<2^256:=by rw[hE];decide+kernel
 have GG:=fun W=>CB rmP (X*X*X+7).val E (Nat.lt_trans (X*X*X+7).isLt aU) nU W
 have hy:pw ak (X*X*X+7).val E=(cH X).val:=by
  rw[mc,eQ,nG,hE]
 rw[hy] at GG;obtain⟨b,hb⟩:∃b,decide ((cH X*cH X).val=(X*X*X+7).val)=b:=⟨_,rfl⟩;have vT:=sv X;rw[show decide (cH X*cH X=X*X*X+7)=b by rw[←hb];congr 1;exact propext Fin.ext_iff] at vT;rw[vT];have GH:eR X.val (if odd then 1 else 0)=if (cH X).val%2=(if odd then 1 else 0) then (cH X).val else ak-(cH X).val:=by rw[eR,mc]
 have bN:b=true→(0-cH X).val=ak-(cH X).val:=fun YL=>by
  rw[show 0-cH X=-cH X by grind,Fin.val_neg'];refine adu ?_
  have h0:(cH X).val≠0:=fun h0=>by
   rw[YL] at hb;have h3:cH X*cH X=X*X*X+7:=Fin.ext (by simpa using hb);rw[show cH X=0 from Fin.ext (by rw[h0];rfl)] at h3;exact fz.no2 X (by rw[←h3];grind)
  have:=(cH X).isLt;omega
 obtain⟨Y,hY⟩:=ae (cH X);rw[←hY] at GG hb GH bN;obtain⟨L,hL⟩:=ae (eR X.val (if odd then 1 else 0));rw[←hL] at GH⊢;have YM:=ab GG;have HB:=ab hb;have HL:=ab GH;have HN:=ab bN;have HEv:=ab hE;have N0:=ab nU;clear GG hy hb vT GH hY hL bN hE nU;go_enter Tryz.func88,Tryz.ntmps88;go_upto_region 4 with (first|(show wpList _ _ _ (⟨some 2,_,_,_,_,_⟩::_) _ _;refine ag 0 [(0,5),(1,6),(2,0)] rfl (by kernel_rfl) ?_)|(show wpList _ _ _ (⟨some 15,_,_,_,_,_⟩::_) _ _;refine ag 0 [(0,4),(1,6),(2,3)] rfl (by kernel_rfl) ?_)|(show Code.wp _ (Code.region 2 _ _) _ _ _;refine aQ [(0,1),(1,1),(2,1),(3,2),(4,1),(5,1),(6,2),(7,0),(8,1),(9,2)] [(10,92,Fc)] [(11,3)] bx (by kernel_rfl) (by intro c a d v w h;cases d<;>exact h) ⟨⟨_,rfl,cJ rfl⟩,trivial⟩ (aH ?_);replace HM:=ab HM.out.drew)|(show wpList _ _ _ (⟨some 26,_,_,_,_,_⟩::_) _ _;refine ag 0 [(0,1),(1,6),(2,3)] rfl (by kernel_rfl) ?_)|(show ai _ _ _ _ _ _ ((_,0)::_) _;refine aj rfl rfl rfl (by kernel_rfl) _ (.inr rfl) (v:=.bool _) rfl ?_)|(show ai _ _ _ _ _ _ ((_,0)::_) _;refine aM rfl rfl rfl (by kernel_rfl) 92 _ rfl Ni rfl ?_)|(show ai _ _ _ _ _ _ ((_,1)::_) _;refine az rfl rfl rfl (by kernel_rfl) 92 _ rfl rfl Tryz.underlying92 rfl (t:=92) (by first|exact HM.out.at_ 0 rfl|exact HM.out.at_ 1 rfl|exact HM.out.at_ 2 rfl ) (aO _) ?_)|((first|(show ai _ _ _ _ _ _ ((_,4)::_) _;refine aw (f:=87) HM.out rfl rfl rfl rfl ?_));refine⟨_,_,Tryz.func87,by kernel_rfl,by kernel_rfl,by kernel_rfl,fun W hW=>zm _,?_⟩;try (intro W af;replace HM:=ab af;clear af))|((first|(show ai _ _ _ _ _ _ ((_,2)::_) _;refine aF (f:=49) rfl rfl rfl ?_) );refine⟨_,_,Tryz.func49,by kernel_rfl,by kernel_rfl,by kernel_rfl,fun W hW=>CH _ _ _,?_⟩;try (intro W af;replace HM:=ab af;clear af))|((first|(show ai _ _ _ _ _ _ ((_,2)::_) _;refine aF (f:=92) rfl rfl rfl ?_) );refine⟨_,_,Tryz.func92,by kernel_rfl,by kernel_rfl,by kernel_rfl,fun W hW=>Rv _ _ _,?_⟩;try (intro W af;replace HM:=ab af;clear af))|(show ai _ _ _ _ _ _ [] _;refine bj ?_)|(show cu _ _ _ _ _ _ (_::_) _ _;refine cL rfl (by kernel_rfl) ?_;intro gN)|(show cu _ _ _ _ _ _ [] _ _;refine bm HM.out ?_;intro W af;simp only[adj,adh,List.set_cons_zero,List.set_cons_succ] at af;replace HM:=ab af;clear af)|(show ai _ _ _ _ _ _ [] _;refine ay (fun K hK=>?_);simp only[aG];go_simp;refine hK _ ?_;clear hK K)|(show ai _ _ _ _ _ _ ((_,3)::_) _;refine an HM.out 92 _ _ rfl rfl ?_;(first|(refine⟨0,_,_,_,_,rfl,rfl,rfl,rfl,rfl,(aO _),(iQ _ _),(cR _),?_⟩) );intro W af;simp only[adj,adh,List.set_cons_zero,List.set_cons_succ] at af;replace HM:=ab af;clear af)|(show ai _ _ _ _ _ _ ((_,5)::_) _;refine bh HM.out rfl rfl _ _ rfl rfl (by kernel_rfl) rfl ?_;intro W gN af;replace HM:=ab af;clear af)|(show ai _ _ _ _ _ _ ((_,6)::_) _;refine aq HM.out rfl rfl rfl (by kernel_rfl) (cJ rfl) ?_;intro W gN af;replace HM:=ab af;clear af)|(show ai _ _ _ _ _ _ ((_,6)::_) _;refine aq HM.out rfl rfl rfl (by kernel_rfl) (jH rfl) ?_;intro W gN af;replace HM:=ab af;clear af) );rename_i gX _ gR _ _ gp _ gs _ _ _ _ _;obtain⟨ge,sH⟩:∃g,g=gN:=⟨_,rfl⟩;rw[←sH] at HM;simp only[←sH];clear sH;go_wp2_with fail;go_loopw [9,10] (fun cv iv wr=>∃i:Nat,i≤8∧iv=.int .i64 i∧((i=0∧cv=.int .u32 1∧Hid (Mem w wr [(ge,92,(dB (nu 8 ak)).toArray),(gs,92,R8 (X*X*X+7).val),(gp,92,R8 ak),(gR,94,rA 0 0 0),(gX,92,R8 X.val)]))∨(1≤i∧cv=.int .u32 0∧Hid (Mem w wr [(ge,92,(dB (nu 8 (ak+1))).toArray),(gs,92,R8 (X*X*X+7).val),(gp,92,R8 ak),(gR,94,rA 0 0 0),(gX,92,R8 X.val)])))) (fun _ iv _=>8-(intOf iv).toNat)
 case atStart=>exact⟨0,by omega,rfl,.inl ⟨rfl,rfl,HM⟩⟩
 case round=>
  clear HM;obtain⟨i,hi,rfl,FH⟩:=hrel
  by_cases aV:i<8
  · rcases FH with ⟨rfl,rfl,HM⟩|⟨hi1,rfl,HM⟩
    · have cE:=cf (HM.out.at_ 0 rfl) (k:=0) (by rw[bg];decide)
      rw[show (nu 8 ak)[0]'(by rw[bg];decide)=4294966319 from by decide+kernel] at cE
      have zE:=dQ (HM.out.at_ 0 rfl) 0;go_wp2_with fail;have dg:(nu 8 ak).set 0 4294966320=nu 8 (ak+1):=by decide+kernel
      have iT:=HM.out.setW 0 rfl 0 4294966320;rw[dg] at iT;exact⟨⟨1,by omega,rfl,.inr ⟨by omega,rfl,ab iT⟩⟩,by simp only[intOf];omega⟩
    have hiP:i<(nu 8 (ak+1)).length:=by rw[bg];exact aV
    obtain⟨v,hv⟩:∃v,v=(nu 8 (ak+1))[i]:=⟨_,rfl⟩;have ac7:v<4294967296:=by rw[hv];exact nR _ _ _ (List.getElem_mem _)
    have cE:=cf (HM.out.at_ 0 rfl) hiP;rw[←hv] at cE;have zE:=dQ (HM.out.at_ 0 rfl) i;have rJ:Hid ((nu 8 (ak+1)).set i v=nu 8 (ak+1)):=ab (by rw[hv];exact List.set_getElem_self _);clear hv hiP;go_wp2_with fail;have iT:=HM.out.setW 0 rfl i v;rw[rJ.out] at iT;exact⟨⟨i+1,by omega,by go_num,.inr ⟨by omega,rfl,ab iT⟩⟩,by simp only[intOf];omega⟩
  obtain rfl:i=8:=by omega
  rcases FH with ⟨h0,_⟩|⟨_,rfl,HM⟩
  · omega
  go_wp2_with fail;go_loopw [12] (fun kv wr=>∃(k V:Nat),k≤2∧kv=.int .i64 k∧Hid (V=(ak+1)/2^k)∧Hid (Mem w wr [(ge,92,(dB (nu 8 V)).toArray),(gs,92,R8 (X*X*X+7).val),(gp,92,R8 ak),(gR,94,rA 0 0 0),(gX,92,R8 X.val)])) (fun kv _=>2-(intOf kv).toNat)
  case atStart=>exact⟨0,_,by omega,rfl,ab rfl,by rw[Nat.pow_zero,Nat.div_one];exact HM⟩
  case round=>
   clear HM;obtain⟨k,V,hk,rfl,HV,HM⟩:=hrel
   by_cases hltk:k<2
   · have Ry:V<2^256:=by rw[HV.out];exact Nat.lt_of_le_of_lt (Nat.div_le_self _ _) (by decide+kernel)
     have G1:=ab Ry;clear Ry;go_wp2_with fail;go_loopw [13] (fun iv wc=>∃i:Nat,i≤8∧iv=.int .i64 i∧Hid (Mem w wc [(ge,92,(dB (Dj V i)).toArray),(gs,92,R8 (X*X*X+7).val),(gp,92,R8 ak),(gR,94,rA 0 0 0),(gX,92,R8 X.val)])) (fun iv _=>8-(intOf iv).toNat)
     case atStart=>exact⟨0,by omega,rfl,by rw[Nk];exact HM⟩
     case round=>
      clear HM;obtain⟨i,hi,rfl,HM⟩:=hrel
      by_cases US:i<8
      · have tg:i<(Dj V i).length:=by rw[vu _ _ hi];exact US
        obtain⟨a,ha⟩:∃a,a=V/2^(32*i)%4294967296:=⟨_,rfl⟩;have gE:=HM.out.at_ 0 rfl;have cE:=cf gE tg;rw[Nn V i i (adi _) US,←ha] at cE;have zE:=dQ gE i;obtain⟨h,hh⟩:∃h,h=a/2:=⟨_,rfl⟩;have hhI:(a:Int)/2=(h:Int):=by rw[hh];omega
        have ac8:h<2147483648:=by omega
        have iH:=m7 (k:=i) (v:=h) gE;have Gt:=ab (CJ V i);rw[←ha,←hh] at Gt;have m6:=ab (P6 V i h US);have c2:=cf iH (k:=i) (by rw[List.length_set];exact tg);rw[List.getElem_set_self] at c2;have z2:=dQ iH i;have af:=HM.out.setW 0 rfl i h;simp only[List.set_cons_zero] at af
        by_cases h7:i<7
        · have hd7:decide ((i:Int)<7)=true:=adA (by omega)
          have aah:i+1<((Dj V i).set i h).length:=by rw[List.length_set,vu _ _ hi];omega
          obtain⟨b,hb⟩:∃b,b=V/2^(32*(i+1))%4294967296:=⟨_,rfl⟩;have ac9:b<4294967296:=by rw[hb];exact Nat.mod_lt _ (by decide)
          have c3:=cf iH aah;rw[List.getElem_set_ne (by omega),Nn V i (i+1) (by omega) (by omega),←hb] at c3;rw[←hb] at Gt;have af:=ab af;clear ha hh hb tg aah gE iH
          by_cases rF:b%2=1
          · have hoI:(b:Int)%2=1:=by omega
            have HF:Hid (V/2/2^(32*i)%4294967296=h+2147483648):=ab (by rw[Gt.out,if_pos rF]);clear rF;go_wp2_with fail;go_simp;have iT:=af.out.setW 0 rfl i (h+2147483648);rw[←HF.out,m6.out,HF.out] at iT;exact⟨⟨i+1,by omega,by go_num,ab iT⟩,by simp only[intOf];omega⟩
          have hoI:(b:Int)%2=0:=by omega
          have HF:Hid (V/2/2^(32*i)%4294967296=h):=ab (by rw[Gt.out,if_neg rF];rfl);clear rF;go_wp2_with fail;go_simp;exact⟨⟨i+1,by omega,by go_num,by rw[←m6.out,HF.out,List.set_set];exact af⟩,by simp only[intOf];omega⟩
        obtain rfl:i=7:=by omega
        have HF:Hid (V/2/2^(32*7)%4294967296=h):=ab (by rw[No V G1.out,←ha,←hh]);have af:=ab af;clear ha hh tg gE iH h7;go_wp2_with fail;go_simp;exact⟨⟨8,by omega,rfl,by rw[←m6.out,HF.out,List.set_set];exact af⟩,by simp only[intOf];omega⟩
      obtain rfl:i=8:=by omega
      rw[Nl] at HM;go_wp2_with fail;exact⟨⟨k+1,V/2,by omega,by go_num,ab (by rw[HV.out,Nat.div_div_eq_div_mul,Nat.pow_succ]),HM⟩,by simp only[intOf];omega⟩
   obtain rfl:k=2:=by omega
   obtain rfl:V=E:=HV.out.trans HEv.out.symm;clear HV;replace HM:Hid (Mem w wr [(ge,92,R8 V),(gs,92,R8 (X*X*X+7).val),(gp,92,R8 ak),(gR,94,rA 0 0 0),(gX,92,R8 X.val)]):=HM
   cases b
   · go_wp2_with (first|(show wpList _ _ _ (⟨some 76,_,_,_,_,_⟩::_) _ _;refine ag 0 [(0,1),(1,1),(2,1),(3,4),(4,6),(5,3)] rfl (by kernel_rfl) ?_)|(show Code.wp _ (Code.region 22 _ _) _ _ _;refine aQ [(0,1),(1,1),(2,1),(3,2),(4,1),(5,0)] [] [] bx (by kernel_rfl) (by intro c a d v w h;cases d<;>exact h) trivial (aH ?_);replace HM:=ab HM.out.drew)|(show wpList _ _ _ (⟨some 86,_,_,_,_,_⟩::_) _ _;refine ag 0 [(0,0),(1,3),(2,0)] rfl (by kernel_rfl) ?_)|(show ai _ _ _ _ _ _ ((_,0)::_) _;refine CM rfl rfl rfl (by kernel_rfl) _ _ rfl (Nat.lt_trans (Fin.isLt _) aU) (Nat.lt_trans (Fin.isLt _) aU) rfl rfl HB.out ?_)|(show ai _ _ _ _ _ _ ((_,0)::_) _;refine aj rfl rfl rfl (by kernel_rfl) _ (.inr rfl) (v:=.bool _) rfl ?_)|((first|(show ai _ _ _ _ _ _ ((_,4)::_) _;refine aw (f:=89) HM.out rfl rfl rfl rfl ?_));refine⟨_,_,Tryz.func89,by kernel_rfl,by kernel_rfl,by kernel_rfl,fun W hW=>YM.out _,?_⟩;try (intro W af;replace HM:=ab af;clear af))|(show ai _ _ _ _ _ _ ((_,1)::_) _;refine az rfl rfl rfl (by kernel_rfl) 92 _ rfl rfl Tryz.underlying92 rfl (t:=92) (by first|exact HM.out.at_ 0 rfl|exact HM.out.at_ 1 rfl|exact HM.out.at_ 2 rfl|exact HM.out.at_ 3 rfl ) (aO _) ?_)|((first|(show ai _ _ _ _ _ _ ((_,2)::_) _;refine aF (f:=49) rfl rfl rfl ?_) );refine⟨_,_,Tryz.func49,by kernel_rfl,by kernel_rfl,by kernel_rfl,fun W hW=>CH _ _ _,?_⟩;try (intro W af;replace HM:=ab af;clear af))|(show ai _ _ _ _ _ _ [] _;refine bj ?_)|(show cu _ _ _ _ _ _ [] _ _;refine bm HM.out ?_;intro W af;simp only[adj,adh,List.set_cons_zero,List.set_cons_succ] at af;replace HM:=ab af;clear af)|(show ai _ _ _ _ _ _ [] _;refine ay (fun K hK=>?_);simp only[aG];go_simp;refine hK _ ?_;clear hK K)|(show ai _ _ _ _ _ _ ((_,3)::_) _;refine an HM.out 92 _ _ rfl rfl ?_;(first|(refine⟨0,_,_,_,_,rfl,rfl,rfl,rfl,rfl,(aO _),(iQ _ _),(cR _),?_⟩) );intro W af;simp only[adj,adh,List.set_cons_zero,List.set_cons_succ] at af;replace HM:=ab af;clear af)|(show ai _ _ _ _ _ _ ((_,6)::_) _;refine aq HM.out rfl rfl rfl (by kernel_rfl) (cJ rfl) ?_;intro W gN af;replace HM:=ab af;clear af)|(show ai _ _ _ _ _ _ ((_,0)::_) _;refine aM rfl rfl rfl (by kernel_rfl) 94 _ rfl JJ rfl ?_)|(show ai _ _ _ _ _ _ ((_,3)::_) _;refine an HM.out 94 _ _ rfl rfl ?_;(first|(refine⟨4,_,_,_,_,rfl,rfl,rfl,rfl,rfl,(fl _ _ _),(m8 _ _ _ _ _ _),(ec _),?_⟩) );intro W af;simp only[adj,adh,List.set_cons_zero,List.set_cons_succ] at af;replace HM:=ab af;clear af))
     exact adm (aA rfl _ _ _ _ _ (0,0) _ rfl (by first|exact HM.out.at_ 4 rfl ) _ rfl Tryz.underlying94 rfl (fl _ _ _)) rfl ⟨rfl,HM.out.hb⟩
   go_upto_region 24 with (first|(show wpList _ _ _ (⟨some 76,_,_,_,_,_⟩::_) _ _;refine ag 0 [(0,1),(1,1),(2,1),(3,4),(4,6),(5,3)] rfl (by kernel_rfl) ?_)|(show Code.wp _ (Code.region 22 _ _) _ _ _;refine aQ [(0,1),(1,1),(2,1),(3,2),(4,1),(5,0)] [] [] bx (by kernel_rfl) (by intro c a d v w h;cases d<;>exact h) trivial (aH ?_);replace HM:=ab HM.out.drew)|(show ai _ _ _ _ _ _ ((_,0)::_) _;refine CM rfl rfl rfl (by kernel_rfl) _ _ rfl (Nat.lt_trans (Fin.isLt _) aU) (Nat.lt_trans (Fin.isLt _) aU) rfl rfl HB.out ?_)|((first|(show ai _ _ _ _ _ _ ((_,4)::_) _;refine aw (f:=89) HM.out rfl rfl rfl rfl ?_));refine⟨_,_,Tryz.func89,by kernel_rfl,by kernel_rfl,by kernel_rfl,fun W hW=>YM.out _,?_⟩;try (intro W af;replace HM:=ab af;clear af))|(show ai _ _ _ _ _ _ ((_,1)::_) _;refine az rfl rfl rfl (by kernel_rfl) 92 _ rfl rfl Tryz.underlying92 rfl (t:=92) (by first|exact HM.out.at_ 0 rfl|exact HM.out.at_ 1 rfl|exact HM.out.at_ 2 rfl|exact HM.out.at_ 3 rfl ) (aO _) ?_)|((first|(show ai _ _ _ _ _ _ ((_,2)::_) _;refine aF (f:=49) rfl rfl rfl ?_) );refine⟨_,_,Tryz.func49,by kernel_rfl,by kernel_rfl,by kernel_rfl,fun W hW=>CH _ _ _,?_⟩;try (intro W af;replace HM:=ab af;clear af))|(show ai _ _ _ _ _ _ [] _;refine bj ?_)|(show cu _ _ _ _ _ _ [] _ _;refine bm HM.out ?_;intro W af;simp only[adj,adh,List.set_cons_zero,List.set_cons_succ] at af;replace HM:=ab af;clear af)|(show ai _ _ _ _ _ _ [] _;refine ay (fun K hK=>?_);simp only[aG];go_simp;refine hK _ ?_;clear hK K)|(show ai _ _ _ _ _ _ ((_,3)::_) _;refine an HM.out 92 _ _ rfl rfl ?_;(first|(refine⟨0,_,_,_,_,rfl,rfl,rfl,rfl,rfl,(aO _),(iQ _ _),(cR _),?_⟩) );intro W af;simp only[adj,adh,List.set_cons_zero,List.set_cons_succ] at af;replace HM:=ab af;clear af)|(show ai _ _ _ _ _ _ ((_,6)::_) _;refine aq HM.out rfl rfl rfl (by kernel_rfl) (cJ rfl) ?_;intro W gN af;replace HM:=ab af;clear af) );have y0:=cf (T:=nu 8 Y.val) (HM.out.at_ 0 rfl) (k:=0) (by rw[bg];decide);rw[Cv] at y0;obtain⟨p,hp⟩:∃p,p=Y.val%2:=⟨_,rfl⟩;rw[←hp] at HL;obtain⟨yw,zR⟩:∃yw,yw=Y.val/2^(32*0)%4294967296:=⟨_,rfl⟩;rw[←zR] at y0;have ack:yw<4294967296:=by rw[zR];exact Nat.mod_lt _ (by decide)
   have ada:(yw:Int)%2=(p:Int):=by rw[zR,hp];omega
   have hp2:p=0∨p=1:=by omega
   clear zR hp
   cases odd<;>rcases hp2 with rfl|rfl
   all_goals
    go_wp2_with (first|(show wpList _ _ _ (⟨some 93,_,_,_,_,_⟩::_) _ _;refine ag 0 [(0,0),(1,1),(2,1),(3,4),(4,3)] rfl (by kernel_rfl) ?_)|(show wpList _ _ _ (⟨some 97,_,_,_,_,_⟩::_) _ _;refine ag 0 [(0,1),(1,1),(2,0),(3,0),(4,3),(5,0)] rfl (by kernel_rfl) ?_)|(show ai _ _ _ _ _ _ ((_,0)::_) _;refine aj rfl rfl rfl (by kernel_rfl) _ (.inr rfl) (v:=.bool _) rfl ?_)|(show ai _ _ _ _ _ _ ((_,1)::_) _;refine az rfl rfl rfl (by kernel_rfl) 92 _ rfl rfl Tryz.underlying92 rfl (t:=92) (by first|exact HM.out.at_ 0 rfl|exact HM.out.at_ 3 rfl|exact HM.out.at_ 5 rfl ) (aO _) ?_)|((first|(show ai _ _ _ _ _ _ ((_,4)::_) _;refine aw (f:=91) HM.out rfl rfl rfl rfl ?_));refine⟨_,_,Tryz.func91,by kernel_rfl,by kernel_rfl,by kernel_rfl,fun W hW=>Rw _ _ _,?_⟩;try (intro W af;replace HM:=ab af;clear af))|(show ai _ _ _ _ _ _ [] _;refine ay (fun K hK=>?_);simp only[aG];go_simp;refine hK _ ?_;clear hK K)|(show ai _ _ _ _ _ _ ((_,3)::_) _;refine an HM.out 92 _ _ rfl rfl ?_;(first|(refine⟨0,_,_,_,_,rfl,rfl,rfl,rfl,rfl,(aO _),(iQ _ _),(cR _),?_⟩) );intro W af;simp only[adj,adh,List.set_cons_zero,List.set_cons_succ] at af;replace HM:=ab af;clear af)|(show ai _ _ _ _ _ _ ((_,0)::_) _;refine aM rfl rfl rfl (by kernel_rfl) 92 _ rfl zv rfl ?_)|(show ai _ _ _ _ _ _ ((_,0)::_) _;refine aM rfl rfl rfl (by kernel_rfl) 92 _ rfl CI rfl ?_)|(show ai _ _ _ _ _ _ ((_,0)::_) _;refine aM rfl rfl rfl (by kernel_rfl) 94 _ rfl (vt _ _ _) rfl ?_)|(show ai _ _ _ _ _ _ ((_,3)::_) _;refine an HM.out 94 _ _ rfl rfl ?_;(first|(refine⟨4,_,_,_,_,rfl,rfl,rfl,rfl,rfl,(fl _ _ _),(m8 _ _ _ _ _ _),(ec _),?_⟩) );intro W af;simp only[adj,adh,List.set_cons_zero,List.set_cons_succ] at af;replace HM:=ab af;clear af));refine adm (aA rfl _ _ _ _ _ (0,0) _ rfl (by first|exact HM.out.at_ 4 rfl ) _ rfl Tryz.underlying94 rfl (fl _ _ _)) rfl ⟨?_,HM.out.hb⟩;rw[HL.out]
    first|rfl|(rw[if_neg (by decide),←HN.out trivial];rfl)
end Go.Proofs.YtnlkdheaohocnaaGreatDoor
namespace Go.Proofs.YtnlkdheaohocnaaGreatDoor
open Go Go.RowKit Go.Shelf
section
variable {ops:Array Oper} {w:World} {o:Oper} {a:Act} {R:Act→World→Prop} {st:Nat→(Act→World→Prop)→Act→World→Prop} {i d:Nat} {rest:List (Nat×Nat)} {l:List (Nat×Value)}
theorem JK (ho:ops[i]?=some o) (hg:o.guard=none) (hd:o.dst=some d) (aV:Nat.blt d a.tmps.size=true) (x:Operand) (cK:o.op=.indexAddr 22 x (.const (.int .i64 0))) {g off n c:Nat} (hx:ev a l x=.slice (some ⟨g,off,none⟩) n c) (hn:0<n) (h:ai Tryz.prog ops R st a w rest ((d,.pointer (some ⟨g,off,none⟩))::l)):ai Tryz.prog ops R st a w ((i,0)::rest) l:=
 cW ho hg hd aV _ (fun ρ hρ W=>by
  have e1:=(hρ x).trans hx;have e2:ρ (.const (.int .i64 0))=.int .i64 0:=hρ _;unfold execOp;simp only[cK,e1,e2];go_simp) h
theorem P8 (ho:ops[i]?=some o) (hg:o.guard=none) (hd:o.dst=some d) (aV:Nat.blt d a.tmps.size=true) (x:Operand) (q:Int) (cK:o.op=.binOp .eql 5 x (.const (.int .u8 q)) 5) {v:Int} (hx:ev a l x=.int .u8 v) {b:Bool} (hb:decide (v=q)=b) (h:ai Tryz.prog ops R st a w rest ((d,.bool b)::l)):ai Tryz.prog ops R st a w ((i,0)::rest) l:=
 cW ho hg hd aV _ (fun ρ hρ W=>by
  have e1:=(hρ x).trans hx;have e2:ρ (.const (.int .u8 q))=.int .u8 q:=hρ _;unfold execOp;simp only[cK,e1,e2];subst hb;go_simp;rw[Bool.eq_iff_iff];simp) h
theorem ab5 (g off c:Nat) (hc:33≤c) (W:World):(Instr.sliceAt 22 (.slice (some ⟨g,off,none⟩) 33 c) (some (.int .i64 1)) none none).run Tryz.prog W=.ok (.slice (some ⟨g,off+1,none⟩) 32 (c-1)) W:=by
 have h1:¬(c=1):=by omega
 go_simp
end
theorem Nr (b0 o0 c:Nat) (bs:List UInt8) (fP:eu bs=true) (hl:bs.length=33) (hc:33≤c) (w:World) (hs:Sl w w.heap.size (some ⟨b0,o0,none⟩) (B8 bs)):
 Calls Tryz.prog 42 #[.slice (some ⟨b0,o0,none⟩) 33 c] w fun e W'=>e=.returned (.tuple #[.agg (rA (oX bs).1.val (oX bs).2.1.val (oX bs).2.2.val),.bool true])∧Below w.heap.size w W':=by
 have bx:Tryz.prog.follows .mixedOrders=true:=by kernel_rfl
 have HM:=ab (Mem.start w)
 obtain⟨h,t,rfl⟩:∃h t,bs=h::t:=by
  cases bs with
  |nil=>simp at hl
  |cons h t=>exact⟨h,t,rfl⟩
 have ht:t.length=32:=by simpa using hl
 have h0:=fP;rw[im] at h0;simp only[adx,Bool.or_eq_true,adB] at h0;obtain⟨⟨⟨_,Bg⟩,aV⟩,ho⟩:=h0;obtain⟨U,hU⟩:=ae (oX (h::t))
 have hUe:rA U.1.val U.2.1.val U.2.2.val=rA (bB t) (eR (bB t) (h.toNat%2)) 1:=by
  obtain⟨X,Y,hX,hY,vT,IA⟩:=yI aV ho (h.toNat%2) (by omega);rw[hU];unfold oX;rw[fP,if_pos rfl];show rA (Fin.ofNat ak (bB t)).val (Fin.ofNat ak (eR (bB t) (h.toNat%2))).val (1:Fin ak).val=_;rw[←hY,←hX,iz,iz];rfl
 have iG:b0<w.heap.size:=by
  obtain⟨b',o',e,h1,_⟩:=hs (by simp[hl]);injection e with e;injection e with e1;rw[e1];exact h1
 have aS:∀W,Below w.heap.size w W→W.cell? ⟨b0,o0,none⟩=some (.int .u8 (h.toNat:Int)):=fun W hW=>by
  obtain⟨b',o',e,h1,h2⟩:=hs (by simp[hl]);injection e with e;injection e with e1 e2;subst e1 e2;exact(hW.cell (p:=⟨b0,o0,none⟩) iG).trans (by have h3:=h2 0 (by simp);rw[Nat.add_zero] at h3;exact h3)
 have fT:∀W,Below w.heap.size w W→Sl W W.heap.size (some ⟨b0,o0+1,none⟩) (B8 t):=fun W hW=>by
  obtain⟨b',o',e,h1,h2⟩:=hs (by simp[hl]);injection e with e;injection e with e1 e2;subst e1 e2;refine fun _=>⟨b0,o0+1,rfl,ads iG hW.size,fun j hj=>?_⟩
  have:=h2 (j+1) (by simp at hj⊢;omega);rw[show o0+1+j=o0+(j+1) by omega];exact(hW.cell (p:=⟨b0,o0+(j+1),none⟩) iG).trans (by simpa [B8] using this)
 obtain⟨X,hX⟩:∃X:Fin ak,X.val=bB t:=⟨⟨bB t,aV⟩,rfl⟩;have Og:=fun W (hW:Below w.heap.size w W)=>vm (some ⟨b0,o0+1,none⟩) (c-1) t ht W (fT W hW)
 rw[←hX] at Og hUe ho;have Qp:=fun W=>Nq X (decide ((h.toNat:Int)=3)) W
 rw[ho,if_pos rfl] at Qp;have IA:(if decide ((h.toNat:Int)=3)=true then 1 else 0)=h.toNat%2:=by rcases Bg with rfl|rfl<;>rfl
 rw[IA,←hUe] at Qp;obtain⟨q,hq⟩:∃q:Nat,q=h.toNat:=⟨_,rfl⟩;have ab6:q=2∨q=3:=by rw[hq];rcases Bg with rfl|rfl<;>simp
 have hle:=fun W=>nS X.val ak (Nat.lt_trans X.isLt aU) EY W
 rw[adA X.isLt] at hle;rw[←hq] at aS Qp;rw[←hU];have HC:=ab aS;have ZV:=ab Og;have YH:=ab Qp;have HLe:=ab hle;have c0:=aS w (adl _ w);clear aS Og Qp hle fT iG hX hUe hU IA hq Bg aV ho hl hs fP ht;go_enter Tryz.func42,Tryz.ntmps42;go_upto_region 1 with (first|(show wpList _ _ _ (⟨some 2,_,_,_,_,_⟩::_) _ _;refine ag 0 [(0,6),(1,0)] rfl (by kernel_rfl) ?_)|(show ai _ _ _ _ _ _ ((_,0)::_) _;refine aj rfl rfl rfl (by kernel_rfl) _ (.inr rfl) (v:=.bool _) rfl ?_)|(show ai _ _ _ _ _ _ [] _;refine ay (fun K hK=>?_);simp only[aG];go_simp;refine hK _ ?_;clear hK K)|(show ai _ _ _ _ _ _ ((_,6)::_) _;refine aq HM.out rfl rfl rfl (by kernel_rfl) (jH rfl) ?_;intro W gN af;replace HM:=ab af;clear af) );have c0':=HC.out _ HM.out.hb;clear c0;rcases ab6 with rfl|rfl
 all_goals
  go_wp2_with fail;refine(ZV.out _ HM.out.hb).mono ?_;rintro e w2 ⟨rfl,bS⟩;replace HM:=ab (HM.out.below bS);go_wp2_with fail;refine(zm w2).mono ?_;rintro e w3 ⟨rfl,b5⟩;replace HM:=ab (HM.out.below b5);go_wp2_with fail;refine(HLe.out w3).mono ?_;rintro e w4 ⟨rfl,gg⟩;replace HM:=ab (HM.out.below gg);clear c0' bS b5 gg;go_wp2_with (first|(show Code.wp _ (Code.region 3 _ _) _ _ _;refine aQ [(0,0),(1,0),(2,2),(3,0),(4,0),(5,1),(6,0),(7,2),(8,0),(9,0)] [] [(10,3),(11,7)] bx (by kernel_rfl) (by intro c a d v w h;cases d<;>exact h) trivial (aH ?_);replace HM:=ab HM.out.drew)|(show ai _ _ _ _ _ _ ((_,0)::_) _;refine aj rfl rfl rfl (by kernel_rfl) _ (.inl rfl) (v:=.slice _ _ _) rfl ?_)|(show ai _ _ _ _ _ _ ((_,0)::_) _;refine aZ rfl rfl rfl (by kernel_rfl) _ _ rfl rfl rfl ?_)|(show ai _ _ _ _ _ _ ((_,0)::_) _;refine db rfl rfl rfl (by kernel_rfl) 22 _ (some _) none rfl (ab5 _ _ _ hc) ?_)|(show ai _ _ _ _ _ _ ((_,0)::_) _;refine JK rfl rfl rfl (by kernel_rfl) _ rfl rfl (by decide) ?_)|(show ai _ _ _ _ _ _ ((_,1)::_) _;refine fK 5 rfl rfl rfl (by kernel_rfl) _ rfl rfl Tryz.underlying5 (HC.out _ HM.out.hb) ?_)|(show ai _ _ _ _ _ _ ((_,0)::_) _;refine P8 rfl rfl rfl (by kernel_rfl) _ 3 rfl rfl rfl ?_)|((first|(show ai _ _ _ _ _ _ ((_,2)::_) _;refine aF (f:=43) rfl rfl rfl ?_) );refine⟨_,_,Tryz.func43,by kernel_rfl,by kernel_rfl,by kernel_rfl,fun W hW=>ZV.out _ (HM.out.ext hW).hb,?_⟩;try (intro W af;replace HM:=ab af;clear af))|((first|(show ai _ _ _ _ _ _ ((_,2)::_) _;refine aF (f:=88) rfl rfl rfl ?_) );refine⟨_,_,Tryz.func88,by kernel_rfl,by kernel_rfl,by kernel_rfl,fun W hW=>YH.out _,?_⟩;try (intro W af;replace HM:=ab af;clear af))|(show ai _ _ _ _ _ _ ((_,7)::_) _;refine uK rfl rfl rfl (by kernel_rfl) _ (.inr rfl) rfl ?_)|(show ai _ _ _ _ _ _ [] _;refine bj ?_)|(show cu _ _ _ _ _ _ [] _ _;refine bm HM.out ?_;intro W af;simp only[adj,adh,List.set_cons_zero,List.set_cons_succ] at af;replace HM:=ab af;clear af)|(show ai _ _ _ _ _ _ [] _;refine ay (fun K hK=>?_);simp only[aG];go_simp;refine hK _ ?_;clear hK K)|(show ai _ _ _ _ _ _ ((_,3)::_) _;refine an HM.out 94 _ _ rfl rfl ?_;(first|(refine⟨0,_,_,_,_,rfl,rfl,rfl,rfl,rfl,(fl _ _ _),(m8 _ _ _ _ _ _),(ec _),?_⟩) );intro W af;simp only[adj,adh,List.set_cons_zero,List.set_cons_succ] at af;replace HM:=ab af;clear af));exact adm (aA rfl _ _ _ _ _ (0,0) _ rfl (by first|exact HM.out.at_ 0 rfl ) _ rfl Tryz.underlying94 rfl (fl _ _ _)) rfl ⟨rfl,HM.out.hb⟩
end Go.Proofs.YtnlkdheaohocnaaGreatDoor
