/- Of any text: the program's descriptors and the reference's are read and written alike (DescParses). No condition. -/
import Derived.Test.YtcjioogololnoaaGreatDoorU1
import Derived.Test.YtcjioogololnoaaGreatDoorU8
import Derived.Test.YtcjioogololnoaaGreatDoorU4
import Derived.Test.YtcjioogololnoaaGreatDoorU5
import Derived.Test.YtcjioogololnoaaGreatDoorShelf
import Derived.Lib.ConvBytes
import Derived.Lib.ItoaNum
set_option maxRecDepth 1000000
set_option maxHeartbeats 16000000
set_option linter.unusedVariables false
set_option linter.unusedSimpArgs false
namespace Go.Proofs.YtcjioogololnoaaGreatDoor
open Go Go.RowKit
section
variable {P:Program} {ops:Array Oper} {md:Region.Mode}
variable {Q:Act→World→Prop} {st:Nat→(Act→World→Prop)→Act→World→Prop} {N:Nat}
def uU (md:Region.Mode) (ops:Array Oper) (listed:Array Bool):Bool:=
 decide (listed.size=ops.size)&&(List.range ops.size).all fun j=>!(listed.getD j false)||(match ops[j]? with|some oj=>oj.after.all fun e=>!(Region.binds md e)||listed.getD e.on false|none=>true)
theorem rk {listed:Array Bool} (h:uU md ops listed=true):Closed md ops listed:=by
 simp only[uU,agz,agy,List.all_eq_true,List.mem_range,Bool.or_eq_true,Bool.not_eq_true'] at h;refine⟨h.1,fun j oj hj hl e he hb=>?_⟩;have XD:j<ops.size:=(af3.1 hj).1;rcases h.2 j XD with h1|h1
 · rw[hl] at h1;cases h1
 rw[hj] at h1;have h2:=Array.all_eq_true_iff_forall_mem.1 h1 e he;simp only[Bool.or_eq_true,Bool.not_eq_true'] at h2;rcases h2 with h2|h2
 · rw[hb] at h2;cases h2
 exact h2
def SG (md:Region.Mode) (ops:Array Oper) (Q:Act→World→Prop) (st:Nat→(Act→World→Prop)→Act→World→Prop) (N:Nat) (listed:Array Bool) (n:Nat) (C:Act→World→Prop):Prop:=
 ∀a w w0,Ext w0 w→C a w→jP md ops Q st N (Ext w0) n listed a w
def Vj (st:Nat→(Act→World→Prop)→Act→World→Prop) (i:Nat) (Ci:Act→World→Prop) (j:Nat) (Cj:Act→World→Prop) (a:Act) (w:World):Prop:=
 st i (fun a' w'=>Ext w w'∧Ci a' w') a w∧st j (fun a' w'=>Ext w w'∧Cj a' w') a w
theorem bN (L:fy P ops Q st) (iP:Region.noSelect ops=true) (eY:List (Nat×Nat)) (listed:Array Bool) (hB:(lS md ops N eY listed&&uU md ops listed)=true):SG md ops Q st N listed eY.length (ay P ops Q st N eY):=by
 intro a w w0 hE h;simp only[agz] at hB;have hc:=rk hB.2;have:=ix L iP eY listed a w w0 0 hB.1 hc hc.1 hE h;simpa using this
theorem dE (L:fy P ops Q st) (i j n:Nat) (listed:Array Bool) (hr:(Region.ready md ops listed==[i,j])=true) {Ci Cj:Act→World→Prop}
 (hi:SG md ops Q st N (listed.setIfInBounds i true) n Ci) (hj:SG md ops Q st N (listed.setIfInBounds j true) n Cj):SG md ops Q st N listed (n+1) (Vj st i Ci j Cj):=by
 intro a w w0 hE h;have hr:Region.ready md ops listed=[i,j]:=by simpa using hr
 refine⟨fun h0=>(by rw[hr] at h0;cases h0),fun k hk=>?_⟩;rw[hr] at hk;simp only[List.mem_cons,List.not_mem_nil,or_false] at hk;rcases hk with rfl|rfl
 · exact L.mono (fun a' w' h'=>have Cd:=hE.trans h'.1;⟨.inr Cd,hi a' w' w0 Cd h'.2⟩) h.1
 exact L.mono (fun a' w' h'=>have Cd:=hE.trans h'.1;⟨.inr Cd,hj a' w' w0 Cd h'.2⟩) h.2
def Ka (md:Region.Mode) (ops:Array Oper) (N:Nat):List (Nat×Nat)→Array Bool→Bool
 |[],_=>true
 |(i,k)::rest,listed=>
  (if k=0 then (Region.ready md ops listed).contains i&&Region.free md ops listed i&&decide (i<N)
   else if k=1 then (Region.ready md ops listed).contains i&&Region.free md ops listed i&&decide (i<N)&&((List.range ops.size).all fun j=>decide (j<N)||anc md ops ops.size j i)
   else (Region.ready md ops listed==[i])&&decide (i<N))&&Ka md ops N rest (listed.setIfInBounds i true)
def Au:List (Nat×Nat)→Array Bool→Array Bool
 |[],l=>l
 |(i,_)::rest,l=>Au rest (l.setIfInBounds i true)
theorem uV (L:fy P ops Q st) (iP:Region.noSelect ops=true) (n:Nat) {C:Act→World→Prop}:∀(pre:List (Nat×Nat)) (listed:Array Bool),
 Ka md ops N pre listed=true→Closed md ops listed→SG md ops Q st N (Au pre listed) n C→SG md ops Q st N listed (pre.length+n) (ay P ops C st N pre)
 |[],listed,_,_,hS=>by
  intro a w w0 hE h;rw[List.length_nil,Nat.zero_add];exact hS a w w0 hE h
 |(i,k)::rest,listed,hB,db,hS=>by
  intro a w w0 hE h;have hlen:((i,k)::rest).length+n=(rest.length+n)+1:=by simp;omega
  rw[hlen]
  by_cases ls:k=0
  · simp only[Ka,ls,if_true,agz,agy] at hB
    obtain⟨⟨⟨hr,hf⟩,lP⟩,fp⟩:=hB;have qV:i∈Region.ready md ops listed:=by simpa using hr
    simp only[ay,ls,if_true] at h;split at h
    · exact h.elim
    rename_i o ho;obtain⟨v,hy,hK⟩:=h;have sE:=uV L iP n rest (listed.setIfInBounds i true) fp (db.set qV) hS (a.put o.dst v) w w0 hE hK;exact fu L (S:=Ext w0) (S1:=fun _=>True) ho (Region.noSelect_spec iP) lP (fun _ _ _ _ _=>trivial) (rest.length+n) listed a w db (Region.free_spec ho hf) qV hy (.inr hE) sE
  by_cases nq:k=1
  · subst nq
    simp only[Ka,if_true,agz,agy,Nat.one_ne_zero,if_false] at hB;obtain⟨⟨⟨⟨hr,hf⟩,lP⟩,M1⟩,fp⟩:=hB;have qV:i∈Region.ready md ops listed:=by simpa using hr
    simp only[ay,if_true,Nat.one_ne_zero,if_false] at h;split at h
    · exact h.elim
    rename_i o ho;obtain⟨v,hy,hK⟩:=h;have sE:=uV L iP n rest (listed.setIfInBounds i true) fp (db.set qV) hS (a.put o.dst v) w w (Ext.refl w) hK
    have h1:=fu L (S:=Ext w) (S1:=Ext w) ho (Region.noSelect_spec iP) lP (fun l w' hc hu ht=>by
     rcases ht with ⟨t,ht,hl⟩|h
     · exfalso
       have Ew:t<ops.size∨¬t<ops.size:=Decidable.em _;rcases Ew with Ew|Ew
       · have:=List.all_eq_true.1 M1 t (List.mem_range.2 Ew)
         simp only[Bool.or_eq_true,agy] at this;have:=qi hc _ _ _ hl (this.resolve_left (by omega));rw[kf hu] at this
         cases this
       rw[show l.getD t false=false by simp[Array.getElem?_eq_none (show l.size≤t by rw[hc.1];omega)]] at hl
       cases hl
     exact h) (rest.length+n) listed a w db (Region.free_spec ho hf) qV hy (.inr (Ext.refl w)) sE
    exact kX L (fun w' x6=>hE.trans x6) _ _ _ _ h1
  simp only[Ka,ls,nq,if_false,agz,agy] at hB;obtain⟨⟨hr,lP⟩,fp⟩:=hB;have hr:Region.ready md ops listed=[i]:=by simpa using hr
  have qV:i∈Region.ready md ops listed:=by rw[hr];simp
  refine⟨fun h0=>(by rw[h0] at hr;cases hr),fun j hj=>?_⟩;rw[hr] at hj;obtain rfl:j=i:=by simpa using hj
  simp only[ay,ls,nq,if_false] at h;refine L.mono (fun a' w' h'=>?_) h;have Cd:=hE.trans (h'.1.resolve_left (by omega));exact⟨.inr Cd,uV L iP n rest _ fp (db.set qV) hS a' w' w0 Cd h'.2⟩
theorem dG (L:fy P ops Q st) (iP:Region.noSelect ops=true) (n:Nat) {C:Act→World→Prop} (pre:List (Nat×Nat)) (listed:Array Bool) (hB:(Ka md ops N pre listed&&uU md ops listed)=true)
 (h:SG md ops Q st N (Au pre listed) n C):SG md ops Q st N listed (pre.length+n) (ay P ops C st N pre):=by
 simp only[agz] at hB;exact uV L iP n pre listed hB.1 (rk hB.2) h
end
section
variable {P:Program} {ops:Array Oper} {N:Nat}
theorem dH {id:Nat} {Q:Exit→Act→World→Prop} {a:Act} {w:World} {l:List Oper} (C:Act→World→Prop) (N n:Nat) (hm:P.follows .mixedOrders=true) (hn:(n==l.length)=true) (hQ:∀c a d v w,Q (.panic c) (Act.put a d v) w→Q (.panic c) a w)
 (hS:SG .any l.toArray (Q .normal) (fun i K a w=>wpOp P l.toArray Q i K a w) N (Array.replicate l.length false) n C) (h:C a w.drew):(Code.region id l.toArray true).wp P Q a w:=by
 refine wp_region_any hm ?_;have hn:n=l.length:=by simpa using hn
 subst hn;have:=hS a w.drew w.drew (Ext.refl _) h;have:=kg _ _ _ _ this;simpa using this
theorem dI {Q:Exit→Act→World→Prop} {i j:Nat} {Ci Cj:Act→World→Prop} {oi oj:Oper} {a:Act} {w:World} (hoi:ops[i]?=some oi) (WJ:ops[j]?=some oj) (hgi:oi.guard=none) (hgj:oj.guard=none)
 (h1:∀K:Act→World→Prop,(∀a' w',(Ext w w'∧Ci a' w')→K a' w')→oi.wp P a w K Q)
 (h2:∀K:Act→World→Prop,(∀a' w',(Ext w w'∧Cj a' w')→K a' w')→oj.wp P a w K Q):
 Vj (fun i K a w=>wpOp P ops Q i K a w) i Ci j Cj a w:=by
 constructor
 · simp only[wpOp,hoi,Region.wanted,hgi,if_true]
   exact .inl (h1 _ (fun _ _ h=>h))
 simp only[wpOp,WJ,Region.wanted,hgj,if_true];exact .inl (h2 _ (fun _ _ h=>h))
end
end Go.Proofs.YtcjioogololnoaaGreatDoor
namespace Go.Proofs.YtcjioogololnoaaGreatDoor
open Go.RowKit Go.Shelf
def dR (c:UInt8):UInt8:=UInt8.ofNat (aB.idxOf c)
theorem fc (l:List UInt8) (c:UInt8):Lib.indexByte l c=cC l c:=by
 induction l with
 |nil=>rfl
 |cons x l ih=>
  unfold cC at ih⊢;rw[Lib.indexByte,List.idxOf_cons]
  by_cases h:x=c
  · subst h;simp
  have hb:(x==c)=false:=by simpa using h
  have hc:¬c=x:=fun e=>h e.symm
  rw[hb,ih]
  by_cases hm:c∈l
  · simp only[hm,hc,or_true,if_true,List.mem_cons,beq_iff_eq,Bool.false_eq_true,if_false,cond_false]
    rw[if_neg (by omega)];rfl
  simp[hm,hc]
theorem Kb (s:ByteArray) (w:World):∃wB cB,(convert 9 37 (.string s)).run Tryz.prog w=.ok (.slice (some ⟨w.heap.size,0,none⟩) s.size cB) wB∧Below w.heap.size w wB∧
 Sl wB wB.heap.size (some ⟨w.heap.size,0,none⟩) (B8 s.data.toList)∧s.size≤cB∧wB.heap.size=w.heap.size+1:=by
 refine⟨_,_,Lib.run_convert_string_bytes (P:=Tryz.prog) w 9 37 5 s (u:=.string) (by kernel_rfl) (by kernel_rfl) (by kernel_rfl),⟨rfl,rfl,rfl,?_,fun k hk=>Lib.bytesWorld_at_old w _ s k hk⟩,?_,?_,Lib.bytesWorld_size w _ s⟩
 · rw[Lib.bytesWorld_size];omega
 · refine fun _=>⟨_,0,rfl,by rw[Lib.bytesWorld_size];omega,fun j hj=>?_⟩
   have yG:j<s.size:=by simpa using hj
   rw[Nat.zero_add,Lib.bytesWorld_cell w _ s j yG,dd];simp[yG]
 exact grownCap_ge _ _ _ _
def cu (s:List UInt8):Nat×List UInt8:=
 if 250<s.length then (2,[])
 else if∀c∈s,c∈aB then (0,List.replicate (s.length-(s.dropWhile (·==49)).length) 0++(dc 58 256 (s.map dR)).reverse)
 else (3,[])
theorem nX (c:UInt8) (h:c∈aB):(dR c).toNat<58:=by
 have:aB.idxOf c<aB.length:=List.idxOf_lt_length_iff.2 h;have h2:aB.length=58:=rfl;rw[dR,agp,agA (by omega)];omega
theorem E9 (s:ByteArray) (w:World) (hsz:s.size≤4096):
 Calls Tryz.prog 141 #[.string s] w fun e W'=>∃v,e=.returned (.tuple #[v,.int .i64 ((cu s.data.toList).1:Int)])∧Ow W' w.heap.size 5 v (B8 (cu s.data.toList).2)∧Below w.heap.size w W':=by
 have hS:s.data.toList.length=s.size:=by simp
 by_cases hbig:250<s.size
 · have hf:cu s.data.toList=(2,[]):=by rw[cu,if_pos (by omega)]
   rw[hf];go_enter Tryz.func141,Tryz.ntmps141;go_wp2_with fail;go_ret2;exact⟨_,rfl,Ow.nil_ _ _ _ _,af5 _ _⟩
 obtain⟨S,Ax⟩:=ab s.data.toList;rw[←Ax] at hS⊢;obtain⟨F,hF⟩:=ab (cu S);rw[←hF];have Ro:=aa Ax;have HS:=aa hS;have HF:=aa hF;clear Ax hS hF;go_enter Tryz.func141,Tryz.ntmps141;go_wp2_with fail;go_loopw [4,13] (fun v i wr=>∃k:Nat,k≤s.size∧i=.int .i64 k∧Ow wr w.heap.size 5 v (B8 ((S.take k).map dR))∧Hid (∀c∈S.take k,c∈aB)∧Below w.heap.size w wr) (fun _ i _=>s.size-(intOf i).toNat)
 case atStart=>exact⟨0,agu _,rfl,Ow.nil_ _ _ _ _,aa (by simp),af5 _ _⟩
 case round=>
  obtain⟨k,hk,rfl,ho,fN,hb⟩:=hrel;obtain⟨D,hD⟩:∃D,D=(S.take k).map dR:=⟨_,rfl⟩;have kQ:D.length=k:=by rw[hD];have:=HS.out;simp;omega
  rw[←hD] at ho;obtain⟨Ad,cd,rfl,Kc,aeX⟩:=aH ho;rw[kQ] at ho Kc⊢;have HD:=aa hD;have yR:=aa kQ;clear hD kQ
  by_cases aL:k<s.size
  · obtain⟨y,hy⟩:∃y,y=s[k]:=⟨_,rfl⟩
    have NO:S[k]?=some y:=by rw[Ro.out,hy];simp[aL];rfl
    have mM:=Tryz.strings_IndexByte ⟨aB.toArray⟩ (s[k].toNat:Int);rw[show (⟨aB.toArray⟩:ByteArray).data.toList=aB from rfl,fc,show ((s[k].toNat:Int)).toNat.toUInt8=y from by rw[hy];simp] at mM;have Vk:=aa NO;have uW:=aa mM;clear NO mM
    by_cases hm:y∈aB
    · obtain⟨d,hd⟩:=ab (aB.idxOf y)
      have SH:d<58:=by rw[hd];exact List.idxOf_lt_length_iff.2 hm
      have iO:cC aB y=(d:Int):=by rw[cC,if_pos hm,hd]
      have Hd:=aa hd;have rl:=aa iO;have Hm:=aa hm;clear hd iO hm;go_wp2_with (first|(go_at_call 32;refine(uW.out _).mono ?_;rintro e w' ⟨rfl,bD⟩;rw[bD];clear bD;rw[rl.out])|(at_builtin;go_loud (refine aq (m:=1) (c:=1) (base:=w.heap.size) (xs:=B8 D) (v:=.slice Ad k cd) (A:=some ⟨wr.heap.size,0,none⟩) (B:=wr.heap.size+1) (news:=[.int .u8 (d:Int)]) jf rfl (.tmp 22) (.tmp 25) rfl rfl (ho.alloc _) rfl (Sl.one wr _ _) rfl (by simp;rfl) (by rw[B8_length,yR.out];simp[maxLen];omega) (by rw[B8_length,yR.out];omega) (by have:=hb.size;simp;omega) ?_);intro v3 w3 cZ fl j0));have hdy:dR y=UInt8.ofNat d:=by rw[dR,←Hd.out]
      rw[dD D _ (UInt8.ofNat d) (by simp;omega),←hdy,HD.out,←List.map_singleton,←List.map_append] at cZ;have jO:S.take k++[y]=S.take (k+1):=by rw[List.take_add_one,Vk.out];rfl
      rw[jO] at cZ;refine⟨⟨k+1,by omega,rfl,cZ,aa ?_,bE hb (af2 _) ho fl⟩,by simp[intOf];omega⟩;rw[←jO];intro c hc;simp only[List.mem_append,agE] at hc;rcases hc with hc|rfl
      · exact fN.out c hc
      exact Hm.out
    have iO:cC aB y=-1:=by rw[cC,if_neg hm]
    have rl:=aa iO;have Hm:=aa hm;clear iO hm;go_wp2_with (go_at_call 32;refine(uW.out _).mono ?_;rintro e w' ⟨rfl,bD⟩;rw[bD];clear bD;rw[rl.out]);go_ret2
    have hF:F=(3,[]):=by
     rw[HF.out,cu,if_neg (by have:=HS.out;omega),if_neg];exact fun h=>Hm.out (h y (List.mem_of_getElem? Vk.out))
    rw[hF];exact⟨_,rfl,Ow.nil_ _ _ _ _,hb⟩
  obtain rfl:k=s.size:=by omega
  have bW:Tryz.prog.follows .mixedOrders=true:=by kernel_rfl
  obtain⟨wB,cB,aaE,hBB,Rp,hcB,hzB⟩:=Kb s wr;have hDS:D=S.map dR:=by rw[HD.out,af7 (by have:=HS.out;omega)]
  obtain⟨z,hz⟩:∃z,z=s.size-(S.dropWhile (·==49)).length:=⟨_,rfl⟩;have nh:=Ce (some ⟨wr.heap.size,0,none⟩) cB S wB (by rw[Ro.out];exact Rp) (by have:=HS.out;omega) (by have:=HS.out;omega);rw[HS.out,←hz] at nh;have hzl:z≤250:=by omega
  have sN:F=(0,List.replicate z 0++(dc 58 256 D).reverse):=by
   have dV:∀c∈S,c∈aB:=by have:=fN.out;rwa [af7 (by have:=HS.out;omega)] at this
   rw[HF.out,cu,if_neg (by have:=HS.out;omega),if_pos dV,HS.out,←hz,hDS]
  have je:=aa nh;have vC:=aa sN;have hoB:=ho.below hBB (af2 _);have hbB:=hb.trans (hBB.mono hb.size);clear nh sN hz hDS Rp ho;go_wp2_with fail;refine je.out.mono ?_;rintro e w5 ⟨rfl,Rq⟩;obtain⟨i0,hi,iC,gq,mI⟩:=info_parts zP;have hmk:=yF (P:=Tryz.prog) 37 5 i0 _ 1 Tryz.underlying37 hi iC gq mI rfl .i64 .i64 (z:Int) (z:Int) z z (by omega) (by omega) (af2 _) (by omega) (by unfold maxLen;omega);have nO:=hoB.below Rq (af2 _);have eh:=hbB.trans (Rq.mono hbB.size);clear aaE hoB hbB hBB Rq hcB hzB;obtain⟨G,hG⟩:=ab (dc 58 256 D);obtain⟨m,hm⟩:=ab G.length
  have Cm:m≤250:=by
   rw[hm,hG];refine agx (mN 58 256 (by omega) (by omega) (by omega) (by omega) D ?_) (by have:=yR.out;omega);rw[HD.out];intro d hd;obtain⟨c,hc,rfl⟩:=List.mem_map.1 hd;exact nX c (fN.out c hc)
  have sN:=vC.out;rw[←hG] at sN;have vC:=aa sN
  have yS:Hid (∀X,Sl X X.heap.size Ad (B8 D)→Calls Tryz.prog 166 #[.slice Ad s.size cd] X fun e W'=>∃A c,e=.returned (.slice A s.size c)∧Ow W' X.heap.size 5 (.slice A s.size c) (B8 D.reverse)∧Below X.heap.size X W'):=aa fun X hX=>by
   have h:=mK Ad cd D X hX (by have:=yR.out;omega);rw[yR.out] at h;refine h.mono ?_;rintro e W' ⟨v,rfl,ho,hb⟩;obtain⟨A,c,rfl,_⟩:=aH ho;rw[List.length_reverse,yR.out] at ho;rw[List.length_reverse,yR.out];exact⟨A,c,rfl,ho,hb⟩
  have HBs:Hid (∀X A c,Sl X X.heap.size A (B8 D.reverse)→Calls Tryz.prog 165 #[.slice A s.size c,.int .i64 58,.int .i64 256] X fun e W'=>∃A' c',e=.returned (.slice A' m c')∧Ow W' X.heap.size 5 (.slice A' m c') (B8 G)∧Below X.heap.size X W'):=aa fun X A c hX=>by
   have h:=vo 58 256 (by omega) (by omega) (by omega) (by omega) A c D.reverse (by rw[List.length_reverse,yR.out];omega) X hX;rw[List.length_reverse,yR.out,List.reverse_reverse,←hG] at h;refine h.mono ?_;rintro e W' ⟨v,rfl,ho,hb⟩;obtain⟨A,c,rfl,_⟩:=aH ho;rw[←hm] at ho⊢;exact⟨A,c,rfl,ho,hb⟩
  have qq:Hid (∀X A c,Sl X X.heap.size A (B8 G)→Calls Tryz.prog 166 #[.slice A m c] X fun e W'=>∃A c,e=.returned (.slice A m c)∧Ow W' X.heap.size 5 (.slice A m c) (B8 G.reverse)∧Below X.heap.size X W'):=aa fun X A c hX=>by
   have h:=mK A c G X hX (by omega);rw[←hm] at h;refine h.mono ?_;rintro e W' ⟨v,rfl,ho,hb⟩;obtain⟨A,c,rfl,_⟩:=aH ho;rw[List.length_reverse,←hm] at ho⊢;exact⟨A,c,rfl,ho,hb⟩
  have HmG:Hid (G.length=m):=aa hm.symm;have hoD:=nO;have Fa:=eh.size;clear sN hm hG nO;go_wp2_with fail;refine dH _ 6 _ bW (by kernel_rfl) (by intro c a d v w h;cases d<;>exact h) (dG (aw _ (by intro c a d v w h;cases d<;>exact h)) (by kernel_rfl) 7 [(0,0),(2,0)] _ (by kernel_rfl) (dE (aw _ (by intro c a d v w h;cases d<;>exact h)) 1 3 6 _ (by kernel_rfl) (bN (aw _ (by intro c a d v w h;cases d<;>exact h)) (by kernel_rfl) [(3,2),(4,2),(5,2),(6,2),(7,2),(8,2)] _ (by kernel_rfl)) (dG (aw _ (by intro c a d v w h;cases d<;>exact h)) (by kernel_rfl) 6 [] _ (by kernel_rfl) (dE (aw _ (by intro c a d v w h;cases d<;>exact h)) 1 4 5 _ (by kernel_rfl) (bN (aw _ (by intro c a d v w h;cases d<;>exact h)) (by kernel_rfl) [(4,2),(5,2),(6,2),(7,2),(8,2)] _ (by kernel_rfl)) (dG (aw _ (by intro c a d v w h;cases d<;>exact h)) (by kernel_rfl) 5 [] _ (by kernel_rfl) (dE (aw _ (by intro c a d v w h;cases d<;>exact h)) 1 5 4 _ (by kernel_rfl) (bN (aw _ (by intro c a d v w h;cases d<;>exact h)) (by kernel_rfl) [(5,2),(6,2),(7,2),(8,2)] _ (by kernel_rfl)) (bN (aw _ (by intro c a d v w h;cases d<;>exact h)) (by kernel_rfl) [(1,2),(6,2),(7,2),(8,2)] _ (by kernel_rfl)))))))) ?_
  repeat ((first|refine ag rfl fun K hK=>?_|refine af rfl fun K hK=>?_);go_simp;(first|refine hK _ ?_|(simp only[IntWalk.iteOmega];go_simp;refine hK _ ?_)|(go_bits;go_simp;refine hK _ ?_));clear hK K;try go_bits)
  refine dI rfl rfl rfl rfl (fun K hK=>?_) (fun K hK=>?_)
  · go_wp2_with fail
    refine⟨bM _ _,?_⟩;obtain⟨W1,kK⟩:∃W,W=(w5.alloc (.cells (Array.replicate z (Value.int IntKind.u8 0)) 5)).drew:=⟨_,rfl⟩;rw[←kK]
    have XE:Ow W1 w.heap.size 5 (.slice (some ⟨w5.heap.size,0,none⟩) z z) (B8 (List.replicate z 0)):=by
     rw[kK];have h:=Ow.of_row (w:=w5) (Array.replicate z (Value.int IntKind.u8 0)) 5 w.heap.size (by omega) (cap:=z) (by simp) (by unfold maxLen;omega) z (af2 _);rw[show (Array.replicate z (Value.int IntKind.u8 0)).toList.take z=B8 (List.replicate z 0) from by simp[B8]] at h;exact h
    have XF:Below w5.heap.size w5 W1:=by rw[kK];exact((af5 _ _).alloc (af2 _) _).drew
    have aeY:=XF.size;clear kK;refine ae rfl rfl (fun K hK=>?_);go_wp2_with fail;refine(yS.out W1 (hoD.below (XF) (af2 _)).sl).mono ?_;rintro e w6 ⟨A6,c6,rfl,Is,Fb⟩;have aeZ:=Fb.size;go_wp2_with fail;refine⟨.inr (aj Fb),?_⟩;refine ae rfl rfl (fun K hK=>?_);go_wp2_with fail;refine(HBs.out w6 A6 c6 Is.sl).mono ?_;rintro e w7 ⟨A7,c7,rfl,hoG,CR⟩;have acY:=CR.size;go_wp2_with fail;refine⟨.inr (aj CR),?_⟩;refine ae rfl rfl (fun K hK=>?_);go_wp2_with fail;refine(qq.out w7 A7 c7 hoG.sl).mono ?_;rintro e w8 ⟨A8,c8,rfl,XG,uB⟩;go_wp2_with fail;refine⟨.inr (aj uB),?_⟩;refine ae rfl rfl (fun K hK=>?_);have qu:=(((XE.below Fb (af2 _)).below CR (af2 _)).below uB (af2 _));have eR:Below w.heap.size w w8:=(((eh.trans (XF.mono (by omega))).trans (Fb.mono (by omega))).trans (CR.mono (by omega))).trans (uB.mono (by omega));have It:Sl w8 w8.heap.size A8 (B8 G.reverse):=XG.sl;refine bn (m:=m) (c:=c8) (base:=w.heap.size) (xs:=B8 (List.replicate z 0)) (v:=.slice (some ⟨w5.heap.size,0,none⟩) z z) (A:=A8) (B:=w8.heap.size) (news:=B8 G.reverse) jf (.tmp 33) (.tmp 37) rfl rfl qu rfl It (by rw[B8_length,List.length_reverse];exact HmG.out) (aG _) (by rw[B8_length,List.length_replicate];simp[maxLen];omega) (by rw[B8_length,List.length_replicate];omega) eR.size ?_;intro vZ wZ NP XH hrZ;rw[←bu] at NP;have XI:Below w.heap.size w wZ:=eR.grown XH eR.size (fun r hr=>(qu.row r hr).1);refine hK _ _ ⟨.inl (by decide),?_⟩;clear hK K qu eR It;go_simp;refine ae rfl rfl (fun K hK=>?_);go_wp2_with fail;refine⟨.inl (by decide),?_⟩;refine ae rfl rfl (fun K hK=>?_);go_wp2_with fail;refine⟨.inl (by decide),?_⟩;refine ak ?_;go_wp2_with fail;go_ret2;rw[vC.out];exact⟨_,rfl,NP,XI⟩
  go_wp2_with fail;refine(yS.out (w5.drew) (hoD.below ((af5 _ _).drew) (af2 _)).sl).mono ?_;rintro e w6 ⟨A6,c6,rfl,Is,Fb⟩;go_wp2_with fail;refine⟨aj Fb,?_⟩;have fv:=eh.drew.trans (Fb.mono (by show w.heap.size≤w5.heap.size;omega));have hz6:=fv.size;refine dI rfl rfl rfl rfl (fun K hK=>?_) (fun K hK=>?_)
  · go_wp2_with fail
    refine⟨aW _ _,?_⟩;obtain⟨W7,AA⟩:∃W,W=w6.alloc (.cells (Array.replicate z (Value.int IntKind.u8 0)) 5):=⟨_,rfl⟩;rw[←AA]
    have XE:Ow W7 w.heap.size 5 (.slice (some ⟨w6.heap.size,0,none⟩) z z) (B8 (List.replicate z 0)):=by
     rw[AA];have h:=Ow.of_row (w:=w6) (Array.replicate z (Value.int IntKind.u8 0)) 5 w.heap.size (by omega) (cap:=z) (by simp) (by unfold maxLen;omega) z (af2 _);rw[show (Array.replicate z (Value.int IntKind.u8 0)).toList.take z=B8 (List.replicate z 0) from by simp[B8]] at h;exact h
    have XJ:Below w6.heap.size w6 W7:=by rw[AA];exact(af5 _ _).alloc (af2 _) _
    have ae0:=XJ.size;clear AA;refine ae rfl rfl (fun K hK=>?_);go_wp2_with fail;refine(HBs.out W7 A6 c6 (Is.below XJ (af2 _)).sl).mono ?_;rintro e w8 ⟨A7,c7,rfl,hoG,uB⟩;have acZ:=uB.size;go_wp2_with fail;refine⟨.inr (aj uB),?_⟩;refine ae rfl rfl (fun K hK=>?_);go_wp2_with fail;refine(qq.out w8 A7 c7 hoG.sl).mono ?_;rintro e w9 ⟨A8,c8,rfl,XG,Fc⟩;go_wp2_with fail;refine⟨.inr (aj Fc),?_⟩;refine ae rfl rfl (fun K hK=>?_);have qu:=((XE.below uB (af2 _)).below Fc (af2 _));have eR:Below w.heap.size w w9:=((fv.trans (XJ.mono (by omega))).trans (uB.mono (by omega))).trans (Fc.mono (by omega));have It:Sl w9 w9.heap.size A8 (B8 G.reverse):=XG.sl;refine bn (m:=m) (c:=c8) (base:=w.heap.size) (xs:=B8 (List.replicate z 0)) (v:=.slice (some ⟨w6.heap.size,0,none⟩) z z) (A:=A8) (B:=w9.heap.size) (news:=B8 G.reverse) jf (.tmp 33) (.tmp 37) rfl rfl qu rfl It (by rw[B8_length,List.length_reverse];exact HmG.out) (aG _) (by rw[B8_length,List.length_replicate];simp[maxLen];omega) (by rw[B8_length,List.length_replicate];omega) eR.size ?_;intro vZ wZ NP XH hrZ;rw[←bu] at NP;have XI:Below w.heap.size w wZ:=eR.grown XH eR.size (fun r hr=>(qu.row r hr).1);refine hK _ _ ⟨.inl (by decide),?_⟩;clear hK K qu eR It;go_simp;refine ae rfl rfl (fun K hK=>?_);go_wp2_with fail;refine⟨.inl (by decide),?_⟩;refine ae rfl rfl (fun K hK=>?_);go_wp2_with fail;refine⟨.inl (by decide),?_⟩;refine ak ?_;go_wp2_with fail;go_ret2;rw[vC.out];exact⟨_,rfl,NP,XI⟩
  go_wp2_with fail;refine(HBs.out w6 A6 c6 Is.sl).mono ?_;rintro e w7 ⟨A7,c7,rfl,hoG,CR⟩;have acY:=CR.size;go_wp2_with fail;refine⟨aj CR,?_⟩;have kR:=fv.trans (CR.mono (by omega));refine dI rfl rfl rfl rfl (fun K hK=>?_) (fun K hK=>?_)
  · go_wp2_with fail
    refine⟨aW _ _,?_⟩;obtain⟨W8,uX⟩:∃W,W=w7.alloc (.cells (Array.replicate z (Value.int IntKind.u8 0)) 5):=⟨_,rfl⟩;rw[←uX]
    have XE:Ow W8 w.heap.size 5 (.slice (some ⟨w7.heap.size,0,none⟩) z z) (B8 (List.replicate z 0)):=by
     rw[uX];have h:=Ow.of_row (w:=w7) (Array.replicate z (Value.int IntKind.u8 0)) 5 w.heap.size (by omega) (cap:=z) (by simp) (by unfold maxLen;omega) z (af2 _);rw[show (Array.replicate z (Value.int IntKind.u8 0)).toList.take z=B8 (List.replicate z 0) from by simp[B8]] at h;exact h
    have XK:Below w7.heap.size w7 W8:=by rw[uX];exact(af5 _ _).alloc (af2 _) _
    have ae1:=XK.size;clear uX;refine ae rfl rfl (fun K hK=>?_);go_wp2_with fail;refine(qq.out W8 A7 c7 (hoG.below XK (af2 _)).sl).mono ?_;rintro e w9 ⟨A8,c8,rfl,XG,Fc⟩;go_wp2_with fail;refine⟨.inr (aj Fc),?_⟩;refine ae rfl rfl (fun K hK=>?_);have qu:=(XE.below Fc (af2 _));have eR:Below w.heap.size w w9:=(kR.trans (XK.mono (by omega))).trans (Fc.mono (by omega));have It:Sl w9 w9.heap.size A8 (B8 G.reverse):=XG.sl;refine bn (m:=m) (c:=c8) (base:=w.heap.size) (xs:=B8 (List.replicate z 0)) (v:=.slice (some ⟨w7.heap.size,0,none⟩) z z) (A:=A8) (B:=w9.heap.size) (news:=B8 G.reverse) jf (.tmp 33) (.tmp 37) rfl rfl qu rfl It (by rw[B8_length,List.length_reverse];exact HmG.out) (aG _) (by rw[B8_length,List.length_replicate];simp[maxLen];omega) (by rw[B8_length,List.length_replicate];omega) eR.size ?_;intro vZ wZ NP XH hrZ;rw[←bu] at NP;have XI:Below w.heap.size w wZ:=eR.grown XH eR.size (fun r hr=>(qu.row r hr).1);refine hK _ _ ⟨.inl (by decide),?_⟩;clear hK K qu eR It;go_simp;refine ae rfl rfl (fun K hK=>?_);go_wp2_with fail;refine⟨.inl (by decide),?_⟩;refine ae rfl rfl (fun K hK=>?_);go_wp2_with fail;refine⟨.inl (by decide),?_⟩;refine ak ?_;go_wp2_with fail;go_ret2;rw[vC.out];exact⟨_,rfl,NP,XI⟩
  go_wp2_with fail;refine(qq.out w7 A7 c7 hoG.sl).mono ?_;rintro e w8 ⟨A8,c8,rfl,XG,uB⟩;have acZ:=uB.size;go_wp2_with fail;refine⟨aj uB,?_⟩;refine ae rfl rfl (fun K hK=>?_);go_wp2_with fail;refine⟨.inr (aW _ _),?_⟩;obtain⟨W9,hW9⟩:∃W,W=w8.alloc (.cells (Array.replicate z (Value.int IntKind.u8 0)) 5):=⟨_,rfl⟩;rw[←hW9]
  have XE:Ow W9 w.heap.size 5 (.slice (some ⟨w8.heap.size,0,none⟩) z z) (B8 (List.replicate z 0)):=by
   rw[hW9];have h:=Ow.of_row (w:=w8) (Array.replicate z (Value.int IntKind.u8 0)) 5 w.heap.size (by omega) (cap:=z) (by simp) (by unfold maxLen;omega) z (af2 _);rw[show (Array.replicate z (Value.int IntKind.u8 0)).toList.take z=B8 (List.replicate z 0) from by simp[B8]] at h;exact h
  have aaF:Below w8.heap.size w8 W9:=by rw[hW9];exact(af5 _ _).alloc (af2 _) _
  clear hW9;refine ae rfl rfl (fun K hK=>?_);have qu:=XE;have eR:Below w.heap.size w W9:=(kR.trans (uB.mono (by omega))).trans (aaF.mono (by omega));have It:Sl W9 W9.heap.size A8 (B8 G.reverse):=(XG.below aaF (af2 _)).sl;refine bn (m:=m) (c:=c8) (base:=w.heap.size) (xs:=B8 (List.replicate z 0)) (v:=.slice (some ⟨w8.heap.size,0,none⟩) z z) (A:=A8) (B:=W9.heap.size) (news:=B8 G.reverse) jf (.tmp 33) (.tmp 37) rfl rfl qu rfl It (by rw[B8_length,List.length_reverse];exact HmG.out) (aG _) (by rw[B8_length,List.length_replicate];simp[maxLen];omega) (by rw[B8_length,List.length_replicate];omega) eR.size ?_;intro vZ wZ NP XH hrZ;rw[←bu] at NP;have XI:Below w.heap.size w wZ:=eR.grown XH eR.size (fun r hr=>(qu.row r hr).1);refine hK _ _ ⟨.inl (by decide),?_⟩;clear hK K qu eR It;go_simp;refine ae rfl rfl (fun K hK=>?_);go_wp2_with fail;refine⟨.inl (by decide),?_⟩;refine ae rfl rfl (fun K hK=>?_);go_wp2_with fail;refine⟨.inl (by decide),?_⟩;refine ak ?_;go_wp2_with fail;go_ret2;rw[vC.out];exact⟨_,rfl,NP,XI⟩
end Go.Proofs.YtcjioogololnoaaGreatDoor
namespace Go.Proofs.YtcjioogololnoaaGreatDoor
open Go
def cc (c:UInt8):Bool:=decide (c=39)||(decide (c=104)||decide (c=72))
def ek (c:UInt8):Bool:=decide (48≤c.toNat)&&decide (c.toNat≤57)
def jS (l:List UInt8):Nat:=l.foldl (fun v c=>min (v*10+(c.toNat-48)) 2147483648) 0
theorem l6 (l:List UInt8) (c:UInt8):jS (l++[c])=min (jS l*10+(c.toNat-48)) 2147483648:=by simp[jS]
theorem Iu (l:List UInt8):jS l≤2147483648:=by
 rcases List.eq_nil_or_concat l with rfl|⟨l',c,rfl⟩
 · simp[jS]
 rw[List.concat_eq_append,l6];omega
def bH (s:List UInt8):Nat×Nat:=
 if s=[]∨(s.head?=some 48∧1<s.length) then (3,0)
 else if s.all ek then (if jS s<2147483648 then (0,jS s) else (2,0)) else (3,0)
def a8 (s:List UInt8):Nat×Nat:=
 if s≠[]∧cc (s.getLastD 0)=true then (if (bH s.dropLast).1=0 then (0,(bH s.dropLast).2+2147483648) else ((bH s.dropLast).1,0))
 else bH s
theorem vD (s:List UInt8):(bH s).2<2147483648:=by
 unfold bH;split
 · decide
 split
 · split
   · assumption
   decide
 decide
theorem vE (s:List UInt8):(a8 s).2<4294967296:=by
 have h1:=vD s;have h2:=vD s.dropLast;unfold a8;split
 · split
   · show _+_<_;omega
   show 0<_;omega
 omega
def bf:List (List UInt8)→Option (List Nat)
 |[]=>some []
 |p::ps=>if (a8 p).1=0 then (bf ps).map ((a8 p).2::·) else none
def cQ:List Nat→List UInt8
 |[]=>[]
 |n::ns=>47::(Lib.decDigits (n%2147483648)++((if 2147483648≤n then [39] else [])++cQ ns))
end Go.Proofs.YtcjioogololnoaaGreatDoor
namespace Go.Proofs.YtcjioogololnoaaGreatDoor
open Go Go.RowKit
section
variable {P:Program} {ops:Array Oper} {md:Region.Mode}
variable {Q:Act→World→Prop} {st:Nat→(Act→World→Prop)→Act→World→Prop} {S:World→Prop}
def aY (P:Program) (ops:Array Oper) (Q:Act→World→Prop) (st:Nat→(Act→World→Prop)→Act→World→Prop) (S:World→Prop):List (Nat×Nat)→Act→World→Prop
 |[],a,w=>Q a w
 |(i,k)::rest,a,w=>
  if k=2 then st i (fun a' w'=>S w'∧aY P ops Q st S rest a' w') a w
  else match ops[i]? with
   |none=>False
   |some o=>∃v,YieldsIf P ops S o v a∧aY P ops Q st S rest (a.put o.dst v) w
def y7 (md:Region.Mode) (ops:Array Oper):List (Nat×Nat)→Array Bool→Bool
 |[],listed=>Region.ready md ops listed==[]
 |(i,k)::rest,listed=>
  (if k=2 then Region.ready md ops listed==[i] else (Region.ready md ops listed).contains i&&Region.free md ops listed i)&&y7 md ops rest (listed.setIfInBounds i true)
theorem aaW {listed:Array Bool} (h:listed.size=ops.size):¬tb ops.size listed:=by
 rintro⟨t,ht,hl⟩;rw[show listed.getD t false=false by simp[Array.getElem?_eq_none (show listed.size≤t by omega)]] at hl
 cases hl
theorem n9 (L:fy P ops Q st) (iP:Region.noSelect ops=true):∀(eY:List (Nat×Nat)) (listed:Array Bool) (a:Act) (w:World),
 y7 md ops eY listed=true→Closed md ops listed→S w→aY P ops Q st S eY a w→jP md ops Q st ops.size S eY.length listed a w
 |[],listed,a,w,hB,_,_,h=>⟨by simpa [y7] using hB,h⟩
 |(i,k)::rest,listed,a,w,hB,db,hS,h=>by
  by_cases hk:k=2
  · subst hk
    simp only[y7,if_true,agz] at hB;obtain⟨hr,fp⟩:=hB;have hr:Region.ready md ops listed=[i]:=by simpa using hr
    have qV:i∈Region.ready md ops listed:=by rw[hr];simp
    refine⟨fun h0=>(by rw[h0] at hr;cases hr),fun j hj=>?_⟩;rw[hr] at hj;obtain rfl:j=i:=by simpa using hj
    simp only[aY,if_true] at h;exact L.mono (fun a' w' h'=>⟨.inr h'.1,n9 L iP rest _ a' w' fp (db.set qV) h'.1 h'.2⟩) h
  simp only[y7,hk,if_false,agz] at hB;obtain⟨⟨hr,hf⟩,fp⟩:=hB;have qV:i∈Region.ready md ops listed:=by simpa using hr
  simp only[aY,hk,if_false] at h;split at h
  · exact h.elim
  rename_i o ho;obtain⟨v,hy,hK⟩:=h;have sE:=n9 L iP rest (listed.setIfInBounds i true) (a.put o.dst v) w fp (db.set qV) hS hK;exact fu L (S:=S) (S1:=S) ho (Region.noSelect_spec iP) (af3.1 ho).1 (fun l w' hc _ ht=>ht.resolve_left (aaW hc.1)) rest.length listed a w db (Region.free_spec ho hf) qV hy (.inr hS) sE
end
section
variable {P:Program} {ops:Array Oper} {S:World→Prop}
theorem bw {id:Nat} {Q:Exit→Act→World→Prop} {a:Act} {w:World} {l:List Oper} (S:World→Prop) (eY:List (Nat×Nat)) (hm:P.follows .mixedOrders=true)
 (hB:(Region.noSelect l.toArray&&decide (eY.length=l.length)&&y7 .any l.toArray eY (Array.replicate l.length false))=true) (hQ:∀c a d v w,Q (.panic c) (Act.put a d v) w→Q (.panic c) a w) (hS:S w.drew)
 (h:aY P l.toArray (Q .normal) (fun i K a w=>wpOp P l.toArray Q i K a w) S eY a w.drew):(Code.region id l.toArray true).wp P Q a w:=by
 simp only[agz,agy] at hB;refine wp_region_any hm ?_
 have:=n9 (aw Q hQ) hB.1.1 eY (Array.replicate l.length false) a w.drew hB.2 ⟨by simp,fun j oj hj hl=>by
  rcases Nat.lt_or_ge j l.length with h|h
  · simp[h] at hl
  simp[h] at hl⟩ hS h
 rw[hB.1.2] at this;have:=kg _ _ _ _ this;simpa using this
theorem ax {Q:Act→World→Prop} {st:Nat→(Act→World→Prop)→Act→World→Prop} {i k:Nat} {rest:List (Nat×Nat)} {o:Oper} {a:Act} {w:World} (hk:k≠2) (ho:ops[i]?=some o)
 (h:∀K:Act→Prop,(∀a,aY P ops Q st S rest a w→K a)→if Region.wanted o (yielded ops a.tmps) then EK P o a K else K (a.put o.dst undef)):
 aY P ops Q st S ((i,k)::rest) a w:=by
 have h:=h _ (fun _ h=>h);simp only[aY,hk,if_false,ho];split at h
 · rename_i hw
   obtain⟨v,hv,hK⟩:=h;refine⟨v,.inl ⟨hw,fun w' _=>?_⟩,hK⟩;have:=hv w';generalize (execOp a.eval o).run P w'=r at*
   cases r with
   |ok n w'=>
    cases n<;>simp only[fY] at this
    obtain⟨rfl,rfl⟩:=this;rfl
   |halt x w'=>simp only[fY] at this
 rename_i hw;exact⟨undef,.inr ⟨by simpa using hw,rfl⟩,h⟩
theorem aO {Q:Act→World→Prop} {st:Nat→(Act→World→Prop)→Act→World→Prop} {i k:Nat} {rest:List (Nat×Nat)} {o:Oper} {a:Act} {w:World} (v:Value) (hk:k≠2) (ho:ops[i]?=some o) (hg:Region.wanted o (yielded ops a.tmps)=true)
 (hv:∀W,S W→(execOp a.eval o).run P W=.ok (.value v) W) (h:aY P ops Q st S rest (a.put o.dst v) w):aY P ops Q st S ((i,k)::rest) a w:=by
 simp only[aY,hk,if_false,ho];exact⟨v,.inl ⟨hg,fun w' hw=>hv w' hw⟩,h⟩
theorem bz {Q:Exit→Act→World→Prop} {i:Nat} {rest:List (Nat×Nat)} {o:Oper} {a:Act} {w:World} (ho:ops[i]?=some o) (hg:o.guard=none)
 (h:∀K:Act→World→Prop,(∀a' w',(S w'∧aY P ops (Q .normal) (fun i K a w=>wpOp P ops Q i K a w) S rest a' w')→K a' w')→o.wp P a w K Q):
 aY P ops (Q .normal) (fun i K a w=>wpOp P ops Q i K a w) S ((i,2)::rest) a w:=by
 simp only[aY,if_true,wpOp,ho,Region.wanted,hg];exact .inl (h _ (fun _ _ h=>h))
theorem cH {Q:Act→World→Prop} {st:Nat→(Act→World→Prop)→Act→World→Prop} {a:Act} {w:World} (h:Q a w):aY P ops Q st S [] a w:=h
end
end Go.Proofs.YtcjioogololnoaaGreatDoor
namespace Go.Proofs.YtcjioogololnoaaGreatDoor
open Go Go.RowKit
section
variable {P:Program} {ops:Array Oper} {md:Region.Mode}
variable {Q:Act→World→Prop} {st:Nat→(Act→World→Prop)→Act→World→Prop} {S:World→Prop}
end
section
variable {P:Program} {ops:Array Oper} {S:World→Prop} {F:Fence} {n:Nat}
theorem bI {o:Oper} {a:Act} {w:World} (ty:TypeId) (x:Operand) (ho:o.op=.load ty x) (g:Nat) (hx:a.eval x=.pointer (some ⟨g,0,none⟩)) (t:TypeId) (cs:Array Value) (fr:Nat×Nat) (d:TypeDesc) (hg:w.heap[g]?=some (.cells cs t fr))
 (hu:P.underlying ty=some d) (hd:(match d with|.struct _|.array _ _=>true|_=>false)=true) (hi:(P.info? ty).map (·.size)=some cs.size):(execOp a.eval o).run P w=.ok (.value (.agg cs)) w:=by
 unfold execOp;simp only[ho,hx,Instr.loadAt,Instr.sureAddr,Sem.run_bind,Sem.run_pure,Result.andThen_ok,run_loadVar_row w g t ty cs fr d hg hu hd hi]
end
end Go.Proofs.YtcjioogololnoaaGreatDoor
namespace Go.Proofs.YtcjioogololnoaaGreatDoor
open Go.RowKit Go.Shelf
def checked (b:List UInt8):List UInt8:=b++(nw (nw b)).take 4
theorem cA (b:List UInt8):(checked b).length=b.length+4:=by simp[checked,eU]
theorem Df (A:Option Addr) (c:Nat) (b:List UInt8) (w:World) (hs:Sl w w.heap.size A (B8 b)) (hl:b.length≤280) (sF:b.length≤c) (hc:c≤maxLen):
 Calls Tryz.prog 80 #[.slice A b.length c] w fun e W'=>e=.returned (.string ⟨(fK (checked b)).toArray⟩)∧Below w.heap.size w W':=by
 have bW:Tryz.prog.follows .mixedOrders=true:=by kernel_rfl
 go_enter Tryz.func80,Tryz.ntmps80;go_wp2_with fail;refine(vz A c b w hs (by omega) sF hc).mono ?_;rintro e w1 ⟨rfl,fj⟩;obtain⟨h1,pC⟩:=ab (nw (nw b));have j7:h1.length=32:=by rw[pC];exact eU _
 rw[←pC];obtain⟨oc,fD⟩:∃oc,oc=(B8 h1).toArray:=⟨_,rfl⟩;have dO:oc.size=32:=by rw[fD];simp[j7]
 have cG:Hid ((Tryz.prog.info? 168).map (·.size)=some oc.size):=aa (by rw[dO];kernel_rfl);have iy:Hid ((Array.replicate 32 (Value.int .u8 0)).size=oc.size):=aa (by rw[dO];simp);have fQ:Hid (oc.all (·.oneCell')=true):=aa (by rw[fD];exact all_oneCell_toArray (aG _));rw[←fD];have pA:=aa fD;have J5:=aa pC;have gq:=fj.size;have jY:=(hs.below fj);clear fD pC dO hs;go_wp2_with (refine af6 rfl 168 (.tmp 3) (.tmp 5) rfl w1.heap.size oc rfl rfl 168 _ (af4 w1 _) cG.out iy.out fQ.out ?_;rw[agi]);obtain⟨w2,iN⟩:=ab (w1.alloc (.cells oc 168));obtain⟨gh,qp⟩:=ab w1.heap.size;rw[←qp,←iN];have jZ:Below w1.heap.size w1 w2:=by rw[iN];exact(af5 _ _).alloc (af2 _) _
 have mI:w2.heap.size=w1.heap.size+1:=by rw[iN];exact agn _ _
 have lv:w2.heap[gh]?=some (.cells (B8 h1).toArray 168 (0,0)):=by rw[iN,←pA.out,qp];exact af4 w1 _
 have px:Sl w2 w2.heap.size A (B8 b):=(jY.below (jZ.mono gq)).mono (by omega);have pT:gh<w2.heap.size:=by omega
 have Yc:=fj.trans (jZ.mono gq);have Hg2:=aa lv;have Oy:=aa px;clear lv iN jY px qp cG iy fQ pA;refine an [(0,0),(2,0),(1,2),(3,2),(4,2),(5,2)] 3 bW (by kernel_rfl) (by intro c a d v w h;cases d<;>exact h) ?_
 repeat ((first|refine ag rfl fun K hK=>?_|refine af rfl fun K hK=>?_);go_simp;(first|refine hK _ ?_|(simp only[IntWalk.iteOmega];go_simp;refine hK _ ?_)|(go_bits;go_simp;refine hK _ ?_));clear hK K;try go_bits)
 refine ae rfl rfl (fun K hK=>?_);go_wp2_with fail;refine(lU A c b w2.drew Oy.out (by omega)).mono ?_;rintro e w3 ⟨v,rfl,ho,bd⟩;obtain⟨Av,cv,rfl,J1,KE⟩:=aH ho;go_wp2_with fail;refine⟨.inr (aj bd),?_⟩;refine ae rfl rfl (fun K hK=>?_);have Yd:Below w2.heap.size w2 w3:=⟨bd.os,bd.tape,bd.output,bd.size,bd.block⟩;have yP:=Yd.size;have fl:=(Yd.block gh pT).trans Hg2.out
 have S9:Sl w3 w3.heap.size (some ⟨gh,0,none⟩) (B8 (h1.take 4)):=fun _=>⟨_,0,rfl,by omega,fun j hj=>by
  have hj4:j<4:=by simp at hj;omega
  rw[agb w3 _ _ _ _ (0,0) fl,Nat.zero_add,dd];simp[B8,j7,show j<32 by omega]⟩
 refine bn (m:=4) (c:=32) (base:=w2.heap.size) (xs:=B8 b) (v:=.slice Av b.length cv) (A:=some ⟨gh,0,none⟩) (B:=w3.heap.size) (news:=B8 (h1.take 4)) jf (.tmp 7) (.tmp 8) rfl rfl ho rfl S9 (by simp[j7]) (aG _) (by rw[B8_length];simp[maxLen];omega) (by rw[B8_length];omega) yP ?_;intro v4 w4 lQ xY qm;rw[←bu,J5.out] at lQ;have dn:=Yd.grown xY yP (fun r hr=>(ho.row r hr).1);refine hK _ _ ⟨.inl (by decide),?_⟩;clear hK K;obtain⟨A4,c4,rfl,Aq,SB⟩:=aH lQ;have hlen:(b++(nw (nw b)).take 4).length=b.length+4:=cA b;go_simp;refine ae rfl rfl (fun K hK=>?_);go_wp2_with fail;have Dg:=EV A4 c4 (checked b) (by rw[cA];omega) w4 lQ.sl;rw[cA] at Dg;refine Dg.mono ?_;rintro e w5 ⟨rfl,Rq⟩;go_wp2_with fail;refine⟨.inl (by decide),?_⟩;refine ae rfl rfl (fun K hK=>?_);go_wp2_with fail;refine⟨.inl (by decide),?_⟩;refine ak ?_;go_wp2_with fail;go_ret;exact⟨rfl,(Yc.trans (dn.mono (by omega))).trans (Rq.mono (by have:=dn.size;omega))⟩
theorem Dh (f t z:Nat) (l:List UInt8):dc f t (List.replicate z 0++l)=dc f t l:=by
 induction z with
 |zero=>rfl
 |succ z ih=>rw[List.replicate_succ,agw,←ih];rfl
theorem iq (s:List UInt8):s=List.replicate (s.length-(s.dropWhile (·==49)).length) 49++s.dropWhile (·==49):=by
 induction s with
 |nil=>rfl
 |cons c s ih=>
  by_cases h:c=49
  · have hl:(s.dropWhile (·==49)).length≤s.length:=(List.dropWhile_sublist _).length_le
    rw[List.dropWhile_cons_of_pos (by simpa using h),agm,show s.length+1-(s.dropWhile (·==49)).length=(s.length-(s.dropWhile (·==49)).length)+1 by omega,List.replicate_succ,agw,←ih,h]
  rw[List.dropWhile_cons_of_neg (by simpa using h)];simp
theorem rJ (s:List UInt8):dc 58 256 (s.map dR)=dc 58 256 ((s.dropWhile (·==49)).map dR):=by
 have h:s.map dR=List.replicate (s.length-(s.dropWhile (·==49)).length) 0++(s.dropWhile (·==49)).map dR:=by
  conv=>lhs;rw[iq s]
  rw[List.map_append,List.map_replicate];rfl
 rw[h,Dh]
theorem zg (s:List UInt8):(cu s).2.length≤250:=by
 unfold cu;split
 · simp
 rename_i aa2;split
 · rename_i dV
   rw[agc,List.length_replicate,List.length_reverse,rJ]
   have h1:=mN 58 256 (by omega) (by omega) (by omega) (by omega) ((s.dropWhile (·==49)).map dR) (fun d hd=>by
    obtain⟨c,hc,rfl⟩:=List.mem_map.1 hd;exact nX c (dV c ((List.dropWhile_sublist _).subset hc)))
   rw[List.length_map] at h1;have hl:(s.dropWhile (·==49)).length≤s.length:=(List.dropWhile_sublist _).length_le;omega
 simp
def ff (s:List UInt8):Nat×List UInt8:=
 if (cu s).1≠0 then ((cu s).1,[])
 else if (cu s).2.length<4 then (4,[])
 else if (nw (nw ((cu s).2.take ((cu s).2.length-4)))).take 4=(cu s).2.drop ((cu s).2.length-4) then (0,(cu s).2.take ((cu s).2.length-4))
 else (5,[])
theorem zh (s:List UInt8):(cu s).1=0∨(cu s).1=2∨(cu s).1=3:=by
 unfold cu;split
 · simp
 split<;>simp
theorem FA (A C:Option Addr) (n m:Nat) (a b:List UInt8) (w:World) (ha:Sl w w.heap.size A (B8 a)) (hb:Sl w w.heap.size C (B8 b)):
 Calls Tryz.prog 142 #[.slice A a.length n,.slice C b.length m] w fun e w'=>e=.returned (.bool (a==b))∧w=w':=by
 have e1:=du (P:=Tryz.prog) w 37 9 5 Tryz.underlying37 Tryz.underlying5 Tryz.underlying9 _ A n a ha;have e2:=du (P:=Tryz.prog) w 37 9 5 Tryz.underlying37 Tryz.underlying5 Tryz.underlying9 _ C m b hb;clear ha hb;go_enter Tryz.func142,Tryz.ntmps142;go_wp2;go_ret;exact⟨rfl,rfl⟩
theorem Oz (A:Option Addr) (n c:Nat) (w:World) (hnc:n≤c):
 Calls Tryz.prog 143 #[.slice A n c] w fun e w'=>e=.returned (.slice A n n)∧w=w':=by
 go_enter Tryz.func143,Tryz.ntmps143;go_wp2;go_ret;exact⟨rfl,rfl⟩
theorem AR (s:ByteArray) (w:World) (hsz:s.size≤4096):
 Calls Tryz.prog 99 #[.string s] w fun e W'=>∃A c,e=.returned (.tuple #[.slice A (ff s.data.toList).2.length c,.int .i64 ((ff s.data.toList).1:Int)])∧Sl W' W'.heap.size A (B8 (ff s.data.toList).2)∧((ff s.data.toList).2.length≤c∧c≤maxLen)∧Below w.heap.size w W':=by
 have bW:Tryz.prog.follows .mixedOrders=true:=by kernel_rfl
 obtain⟨F,hF⟩:=ab (ff s.data.toList);obtain⟨S,hS⟩:=ab s.data.toList;have rK:=E9 s w hsz;rw[←hF];rw[←hS] at rK hF;obtain⟨E,hE⟩:∃E,E=(cu S).1:=⟨_,rfl⟩;obtain⟨B,hB⟩:∃B,B=(cu S).2:=⟨_,rfl⟩;have yi:B.length≤250:=by rw[hB];exact zg S
 have hE5:E=0∨E=2∨E=3:=by rw[hE];exact zh S
 rw[ff,←hE,←hB] at hF;rw[←hE,←hB] at rK;have Di:=aa rK;have HF:=aa hF;clear rK hF hS hE hB
 by_cases me:E=0
 · subst me
   go_enter Tryz.func99,Tryz.ntmps99;go_wp2_with fail;refine Di.out.mono ?_;rintro e w1 ⟨v,rfl,ho,hb⟩;obtain⟨Av,cv,rfl,J1,KE⟩:=aH ho;obtain⟨n,hn⟩:=ab B.length;rw[←hn];rw[←hn] at ho J1 yi
   by_cases h4:n<4
   · have sN:F=(4,[]):=by rw[HF.out,if_neg (by simp),if_pos (by omega)]
     have vC:=aa sN;clear sN hn;go_wp2_with fail;go_ret2;rw[vC.out];exact⟨none,0,rfl,Sl.nil,⟨af2 _,agu _⟩,hb⟩
   obtain⟨m,hm⟩:∃m,m=n-4:=⟨_,rfl⟩;have em:(n:Int)-4=(m:Int):=by omega
   have hmn:m≤n:=by omega
   have hmc:m≤cv:=by omega
   have Rp:Sl w1 w1.heap.size Av (B8 B):=ho.sl;have jO:(B.take m).length=m:=by simp;omega
   have hdr:(B.drop m).length=4:=by simp;omega
   have vW:=vz Av cv (B.take m) w1 (by rw[oQ];exact Rp.take m) (by omega) (by omega) KE;rw[jO] at vW;obtain⟨h1,pC⟩:=ab (nw (nw (B.take m)));have j7:h1.length=32:=by rw[pC];exact eU _
   rw[←pC] at vW;obtain⟨oc,fD⟩:∃oc,oc=(B8 h1).toArray:=⟨_,rfl⟩;have dO:oc.size=32:=by rw[fD];simp[j7]
   have cG:Hid ((Tryz.prog.info? 168).map (·.size)=some oc.size):=aa (by rw[dO];kernel_rfl);have iy:Hid ((Array.replicate 32 (Value.int .u8 0)).size=oc.size):=aa (by rw[dO];simp);have fQ:Hid (oc.all (·.oneCell')=true):=aa (by rw[fD];exact all_oneCell_toArray (aG _));rw[←fD] at vW;have Ye:=aa vW;have pA:=aa fD;have J5:=aa pC;have Hn:=aa hn;have Hm:=aa hm;have oh:=aa jO;have Hdr:=aa hdr;clear vW fD pC dO hn hm jO hdr;go_wp2_with fail;refine Ye.out.mono ?_;rintro e w2 ⟨rfl,jZ⟩;have mI:=jZ.size;go_wp2_with (refine af6 rfl 168 (.tmp 7) (.tmp 24) rfl w2.heap.size oc rfl rfl 168 _ (af4 w2 _) cG.out iy.out fQ.out ?_;rw[agi]);obtain⟨w3,mf⟩:=ab (w2.alloc (.cells oc 168));obtain⟨gh,qp⟩:=ab w2.heap.size;rw[←qp,←mf];have py:Below w2.heap.size w2 w3:=by rw[mf];exact(af5 _ _).alloc (af2 _) _
   have yP:w3.heap.size=w2.heap.size+1:=by rw[mf];exact agn _ _
   have fl:w3.heap[gh]?=some (.cells (B8 h1).toArray 168 (0,0)):=by rw[mf,←pA.out,qp];exact af4 w2 _
   have OA:=jZ.trans (py.mono mI);have S9:Sl w3 w3.heap.size Av (B8 B):=(Rp.below OA).mono (by omega)
   have Nw:Sl w3 w3.heap.size (some ⟨gh,0,none⟩) (B8 (h1.take 4)):=fun _=>⟨_,0,rfl,by omega,fun j hj=>by
    have hj4:j<4:=by simp at hj;omega
    rw[agb w3 _ _ _ _ (0,0) fl,Nat.zero_add,dd];simp[B8,j7,show j<32 by omega]⟩
   have bd:=hb.trans (OA.mono hb.size);have OB:Sl w3 w3.heap.size Av (B8 (B.take m)):=by rw[oQ];exact S9.take m
   have hY3:Sl w3 w3.heap.size (Av.map fun x=>x.add m) (B8 (B.drop m)):=by
    have h:=S9.cutf (k:=m) (cap:=cv) (fun x=>x.add m) (fun b o=>fM b o m) (by rw[B8_length,←Hn.out];exact J1) (by rw[B8_length,←Hn.out];exact hmn);rw[if_neg (by have:=Hm.out;omega)] at h;rw[oR];exact h
   have heq:=FA (some ⟨gh,0,none⟩) (Av.map fun x=>x.add m) 32 (cv-m) (h1.take 4) (B.drop m) w3.drew Nw hY3;rw[Hdr.out,show (h1.take 4).length=4 by simp[j7]] at heq;have hnm:n-m=4:=by have:=Hm.out;omega
   have Heq:=aa heq;have Yf:=aa OB;clear fl mf qp cG iy fQ pA Nw hY3 S9 heq OB ho Rp yP
   have U7:F=if h1.take 4=B.drop m then (0,B.take m) else (5,[]):=by
    have hl4:¬B.length<4:=by have:=Hn.out;omega
    rw[HF.out,if_neg (by simp),if_neg hl4,←Hn.out,←Hm.out,←J5.out]
   have xZ:=aa U7;clear U7;refine an [(0,0),(1,0),(2,0),(3,0),(4,2),(5,0)] 6 bW (by kernel_rfl) (by intro c a d v w h;cases d<;>exact h) ?_
   repeat ((first|refine ag rfl fun K hK=>?_|refine af rfl fun K hK=>?_);go_simp;(first|refine hK _ ?_|(simp only[IntWalk.iteOmega];go_simp;refine hK _ ?_)|(go_bits;go_simp;refine hK _ ?_));clear hK K;try go_bits)
   refine ae rfl rfl (fun K hK=>?_);go_wp2_with fail;refine Heq.out.mono ?_;rintro e w4 ⟨rfl,rfl⟩
   by_cases hq:h1.take 4=B.drop m
   · have sN:F=(0,B.take m):=by rw[xZ.out,if_pos hq]
     have vC:=aa sN;rw[show (h1.take 4==B.drop m)=true by simpa using hq];clear sN hq;go_wp2_with fail;refine⟨(by first|exact .inr (Ext.refl _)|exact Ext.refl _),?_⟩
     repeat ((first|refine ag rfl fun K hK=>?_|refine af rfl fun K hK=>?_);go_simp;(first|refine hK _ ?_|(simp only[IntWalk.iteOmega];go_simp;refine hK _ ?_)|(go_bits;go_simp;refine hK _ ?_));clear hK K;try go_bits)
     refine ak ?_;go_wp2_with fail;have db:=Oz Av m cv w3.drew hmc;refine db.mono ?_;rintro e w5 ⟨rfl,rfl⟩;go_wp2_with fail;go_ret2;rw[vC.out];refine⟨Av,m,?_,Yf.out,⟨?_,by omega⟩,bd.drew⟩
     · rw[oh.out];rfl
     exact Nat.le_of_eq oh.out
   have sN:F=(5,[]):=by rw[xZ.out,if_neg hq]
   have vC:=aa sN;rw[show (h1.take 4==B.drop m)=false by simpa using hq];clear sN hq;go_wp2_with fail;refine⟨(by first|exact .inr (Ext.refl _)|exact Ext.refl _),?_⟩
   repeat ((first|refine ag rfl fun K hK=>?_|refine af rfl fun K hK=>?_);go_simp;(first|refine hK _ ?_|(simp only[IntWalk.iteOmega];go_simp;refine hK _ ?_)|(go_bits;go_simp;refine hK _ ?_));clear hK K;try go_bits)
   refine ak ?_;go_wp2_with fail;go_ret2;rw[vC.out];exact⟨none,0,rfl,Sl.nil,⟨af2 _,agu _⟩,bd.drew⟩
 have adi:¬((E:Int)=0):=by omega
 go_enter Tryz.func99,Tryz.ntmps99;go_wp2_with fail;refine Di.out.mono ?_;rintro e w1 ⟨v,rfl,ho,hb⟩;go_wp2_with fail;go_ret2;rw[HF.out,if_pos me];exact⟨none,0,rfl,Sl.nil,⟨af2 _,agu _⟩,hb⟩
end Go.Proofs.YtcjioogololnoaaGreatDoor
