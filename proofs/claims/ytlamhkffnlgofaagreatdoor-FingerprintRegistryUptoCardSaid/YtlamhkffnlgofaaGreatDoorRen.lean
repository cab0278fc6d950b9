/- What canon.renamed computes. No condition. -/
import Derived.Test.YtlamhkffnlgofaaGreatDoorHAM
import Derived.Test.YtlamhkffnlgofaaGreatDoorShelf
import Derived.Lib.AppendIntMem
import Derived.Lib.SmallJoins
set_option maxHeartbeats 3200000
set_option maxRecDepth 100000
namespace Go.Proofs.YtlamhkffnlgofaaGreatDoor
open Go.ChangeShapes Go.WideShapes Go.ChangeAt Go.RowKit
abbrev aj0 (w:World):Prop:=Lib.TabIs Tryz.prog w "internal/strconv.uint64pow10" .u64 Lib.pow10Tab
theorem aj0.on {w w':World} (h:aj0 w) (hb:Below w.heap.size w w'):aj0 w' :=
 Go.Joins.tab_stays (show Tryz.prog.globalNamed "internal/strconv.uint64pow10" = some 0 by kernel_rfl) h hb (Nat.le_refl _)
theorem arN (n:Int) (hn:I64 n) (w:World) (h:aj0 w):Calls Tryz.prog 69 #[.int .i64 n] w (RTq w (.string ⟨(Lib.itoa n).toArray⟩)) :=
 (Tryz.strconv_Itoa n hn.1 hn.2 w h).mono fun _ _ ⟨h1,k,os,h2⟩ => ⟨h1,h2 ▸ Lib.below_grow _ _ (Nat.le_refl _) k os⟩
def aBM (x y:ay) (w:World) (e:Ending) (w':World):Prop := ∃ vs vm,e = .returned (dA y vs vm)∧alC w' (fun b => w.heap.size≤b∧b < w'.heap.size) y vs vm∧Below w.heap.size w w'∧x=x
theorem aAD (x:ay) (A:Option Addr) (c:Nat) (A2:Option Addr) (c2:Nat) (w:World) (hl:x.syms.length≤1000) (h:jc w w.heap.size x (.slice A x.syms.length c) (.slice A2 x.ah.length c2)) :
  Calls Tryz.prog 104 #[.slice A x.syms.length c] w (DJ w 105 2 x.syms.length (jO x.syms)):=by
 obtain ⟨h1,h2,h3⟩:=h.syms.flat (Nat.le_refl _);exact awH x.syms.length A c (jO x.syms) w (by omega) h1 (aen _) h2 h3 (aem _)
theorem azE (x:ay) (A:Option Addr) (c:Nat) (A2:Option Addr) (c2:Nat) (w:World) (hl:x.ah.length≤1000) (h:jc w w.heap.size x (.slice A x.syms.length c) (.slice A2 x.ah.length c2)) :
  ∃ cm:Nat→List Value,(∀ (i:Nat) (hi:i < x.ah.length),∃ vk vi vr,cm i=ZK x.ah[i] vk vi vr∧GH w w.heap.size x.ah[i] vk vi vr) ∧
   ∀ W,Below w.heap.size w W→Calls Tryz.prog 105 #[.slice A2 x.ah.length c2] W (DJ W 83 13 x.ah.length (nN cm x.ah.length)):=by
 obtain ⟨cm,hrow,hel⟩:=h.ah;have alh:∀ i,i < x.ah.length→(cm i).length=13:=fun i hi => by obtain ⟨_,_,_,h,_⟩:=hel i hi;rw [h];rfl
 refine ⟨cm,fun i hi => hel i hi,fun W hb => ?_⟩;obtain ⟨h1,h2,h3⟩:=(hrow.keep (w':=W) fun p hp => hb.cell hp).flat' hb.size (by omega) alh;refine axO x.ah.length A2 c2 _ W (by omega) h1 (arY _ _ _ alh) h2 h3 ?_;intro u hu;obtain ⟨q,hq⟩:=List.mem_iff_getElem?.1 hu;obtain ⟨h4,h5⟩:=Ub cm 13 _ (by omega) alh q u hq;obtain ⟨a1,a2,a3,h6,h7⟩:=hel _ h4;obtain ⟨_,_,_,_,_,_,rfl,rfl,rfl,-,-,-⟩:=h7.dflt.forms;rw [h6] at h5;have hm:=List.mem_of_getElem? h5;simp only [ZK,oD,List.cons_append,List.nil_append,List.mem_cons,List.not_mem_nil,or_false] at hm;rcases hm with rfl | rfl | rfl | rfl | rfl | rfl | rfl | rfl | rfl | rfl | rfl | rfl | rfl <;> rfl
theorem awt (w:World) (L B:Nat) (hB:B≤w.heap.size):Kept (fun W => ∀ q,L≤q→q < B→W.heap[q]?=w.heap[q]?) w L B:=⟨fun _ _ _ => rfl,fun _ hk q h1 h2 => hk q h1 h2,hB⟩
theorem IB.aAE {w:World} {base n size:Nat} {e:TypeId} {v:Value} {xs:List Value} (h:w.ownsRow base e size v n xs):IB w (fun b => base≤b∧b < w.heap.size) size v n xs:=by
 obtain ⟨hl,A,c,hv,hc,h2⟩:=Rd.uX h;refine ⟨hl,A,c,hv,hc,?_⟩;rcases h2 with h2 | ⟨b,o,hA,hb,hcell⟩
 · exact .inl h2
 exact .inr ⟨b,o,hA,⟨(h.lt b (by rw [hv,hA];rfl)).1,hb⟩,hcell⟩
theorem aBN {w:World} {L size n:Nat} {v:Value} {xs:List Value} (h:IB w (fun b => L≤b∧b < w.heap.size) size v n xs):Kept (fun w' => IB w' (fun b => L≤b∧b < w.heap.size) size v n xs) w L w.heap.size :=
 ⟨h,fun _ hk => h.keep (fun p hp => World.cell?_of_block (hk p.block hp.1 hp.2)) (fun _ h => h),Nat.le_refl _⟩
theorem aAF {w:World} {L:Nat} {v:Value} {ms:List Mem} (h:als w (fun b => L≤b∧b < w.heap.size) v ms):Kept (fun w' => als w' (fun b => L≤b∧b < w.heap.size) v ms) w L w.heap.size :=
 ⟨h,fun _ hk => h.keep (fun p hp => World.cell?_of_block (hk p.block hp.1 hp.2)) (fun _ h => h),Nat.le_refl _⟩
theorem awO {P:Program} {ops:Array Oper} {Q:Exit→Act→World→Prop} {id:Nat} {a:Act} {w:World} (hm:P.follows .mixedOrders=true)
  (h:wpAny P .any ops Q ops.size (Array.replicate ops.size false) a w.drew):(Code.region id ops true).wp P Q a w:=wp_region_any hm h
section
variable {P:Program} {ops:Array Oper} {Q:Exit→Act→World→Prop} {md:Region.Mode} {f:Nat} {listed:Array Bool} {a:Act} {w:World} {oi:Oper}
theorem tkN (i:Nat) {v:Value} {a2:Act} (r:wpAny P md ops Q f (listed.setIfInBounds i true) a2 w) (hi:ops[i]?=some oi:=by rfl) (y:∀ w,(execOp a.eval oi).run P w = .ok (.value v) w:=by (intro w;go_simp;(first | done | with_reducible rfl)))
  (h1:Region.noSelect ops=true:=by kernel_rfl) (h2:Region.free md ops listed i=true:=by kernel_rfl) (h3:(Region.ready md ops listed).contains i=true:=by kernel_rfl)
  (h4:∀ c a w,Q (.panic c) (a.put oi.dst v) w→Q (.panic c) a w:=by exact fun _ _ _ h => h) (h5:Region.wanted oi (yielded ops a.tmps)=true:=by rfl) (e:a.put oi.dst v=a2:=by simp only [aF];exact rfl):wpAny P md ops Q (f+1) listed a w :=
 wpAny_take hi h1 h2 h3 h4 (.inl ⟨h5,y⟩) (e ▸ r)
theorem aBO {S:World→Prop} (T:Nat→Bool) (hS:S w) (h:S w→uZ P md ops Q S T f listed a w):wpAny P md ops Q f listed a w:=QY _ _ _ _ (h hS)
end
theorem arO (n:Nat) (hn:n≤1000) (ix:Nat→Nat) (hix:∀ u,ix u≤1000) {x:ay} {w0 w:World} {B:Nat} {v0 m0 vs vm:Value} {S:Nat→Prop} (hx:jc w0 B x v0 m0)
  (hs:IB w S 2 vs x.syms.length (jO (x.syms.map anL))) (hm:als w S vm (x.ah.map (aoc ix))):alC w S (Aq n ix x) vs vm:=by
 obtain ⟨h1,h2,h3,h4,h5,h6⟩:=hx.ints;have hI:∀ u,I64 ((ix u:Nat):Int):=fun u => by have:=hix u;unfold I64;omega
 refine ⟨⟨h1,h2,h3,h4,?_,?_⟩,?_,⟨by simpa [Aq] using hx.lens.1,by simpa [Aq] using hx.lens.2⟩,fun r hr => ?_,by simpa [Aq] using hs,hm⟩
 ·
  show I64 (if x.kind=8 then _ else _);split
  · exact hI _
  exact h5
 ·
  show I64 (if x.kind=7∨x.kind=8∨x.kind=9 then _ else _);split
  · exact hI _
  exact h6
 ·
  show (if x.name = [] then ([] : List UInt8) else rF 84 n).length≤_;have:=af5 84 n (by unfold I64;omega);split <;> simp <;> omega
 obtain ⟨s,hs1,rfl⟩:=List.mem_map.1 (show r ∈ x.syms.map anL from hr);have:=af5 115 s.1 (hx.QL s hs1).1;exact ⟨(hx.QL s hs1).1,by show (rF 115 s.1).length≤_;omega⟩
theorem alC.sub {w:World} {S S':Nat→Prop} {x:ay} {vs vm:Value} (h:alC w S x vs vm) (hS:∀ b,S b→S' b):alC w S' x vs vm:=h.keep (fun _ _ => rfl) hS
theorem zAk {p:Prop} (h:p:=by exact ⟨(MR.out.now.c 0 rfl),⟨(MR.out.now.c 2 rfl),⟨(MR.out.now.c 5 rfl),⟨(MR.out.now.c 6 rfl),⟨(MR.out.now.c 7 rfl),⟨(MR.out.now.c 8 rfl),⟨(MR.out.now.c 9 rfl),⟨(MR.out.now.c 10 rfl),⟨(MR.out.now.c 11 rfl),(MR.out.now.c 12 rfl)⟩⟩⟩⟩⟩⟩⟩⟩⟩):p:=h
theorem zCh {p:Prop} (h:p:=by
 clear h8 h7 he8 hce HY;have aC:=T.out.e0;have aV:=T.out.e8;go_wp2_with fail;clear aC aV;((with_reducible refine (HCE.out _ hb0).mono ?_);rintro e lZ ⟨rfl,kR⟩);obtain ⟨T,R,SY,ME⟩:=b4 T R SY ME kR;replace hb0:=dT hb0 kR;clear kR;have aV:=T.out.e8;have Jk:=T.out.free 8;go_upto_region 20 with fail;clear aV Jk;generalize lW:lZ.setCell _ _=oZ;obtain ⟨R,SY,ME⟩:=f3 R SY ME (eF lW);replace T:=JZ T lW;replace hb0:=tf hb0 lW;clear lW;obtain ⟨aC,bH,bQ,acX,aW,bP,bf,bF,aV,aJ⟩:=T.out.c10;go_wp2_with (refine sR R.out ?_)
 clear aC bH bQ acX aW bP bf bF aV aJ;generalize pK:oZ.setRow _ _=yN;obtain ⟨T,SY,ME⟩:=f3 T SY ME (eR pK);replace R:=dV R pK;replace hb0:=tr hb0 pK;clear pK;exact bodyPost_ret (v:=.agg #[.int .i64 x.kind,.string ⟨nm.toArray⟩,.int .i64 x.low,.int .i64 x.high,.int .i64 x.max,.slice A5 x.syms.length c5,.slice A6 x.ah.length c6,.int .i64 x.key,.int .i64 (ix x.elem.toNat:Nat),.bool x.opn]) (by simp [results,Tryz.results76,go_sem,R.out.c10]) rfl (⟨_,_,congrArg _ TN.out.symm,(arO n HN.out ix HIB.out HX.out SY.out.now ME.out.now).sub (fun b hb => ⟨by have:=hb.1;omega,by have:=hb.2;have:=SY.out.le;omega⟩),hb0,rfl⟩)):p:=h
theorem aww (n:Nat) (hn:n≤1000) (x:ay) (vs vm:Value) (ix:Nat→Nat) (hix:∀ u,ix u≤1000) (p1 p2:Value) (w:World) (hx:jc w w.heap.size x vs vm) (hls:x.syms.length≤1000) (hlm:x.ah.length≤1000) (hp:aj0 w)
  (hU:∀ u ∈ bn x,0≤u.2) (hC:∀ u ∈ outs x,∀ W,Below w.heap.size w W→Calls Tryz.prog 77 #[.int .i64 (u:Nat),p1,p2] W fun e w' => e = .returned (.int .i64 (ix u:Nat))∧Below W.heap.size W w') :
  Calls Tryz.prog 76 #[dA x vs vm,.int .i64 n,.func (.func 77) #[] #[p1,p2]] w (aBM x (Aq n ix x) w):=by
 obtain ⟨C1,l1,C2,l2,rfl,rfl,-,-⟩:=hx.forms;obtain ⟨cm,hcm,hcl⟩:=azE x C1 l1 C2 l2 w hlm hx;have HCM:=hiQ hcm;have HCL:=hiQ hcl;have HX:=hiQ hx;have HP:=hiQ hp;have HU:=hiQ hU;have HC:=hiQ hC;have HIB:=hiQ hix;have HN:=hiQ hn;clear hx hp hU hC hix hcm hcl;go_enter Tryz.func76,Tryz.ntmps76
 go_upto_region 1 with fail;refine jg (fun wd2 hb1 T R => ?_);have hw3:=hb1;clear hb1;have hT0:=T.out;have hR0:=R.out;have hW0:=hw3;have bH:=T.out.e1;go_upto_if 12 with fail
 clear bH;obtain ⟨bq,hbq⟩ : ∃ b,b = !x.name.isEmpty:=⟨_,rfl⟩
 rw [← hbq];have HB1:=hiQ (show bq=false→x.name = [] from fun h => by rw [h] at hbq;simpa using hbq);have HB2:=hiQ (show bq=true→x.name≠[] from fun h => by rw [h] at hbq;simpa using hbq);clear hbq;go_cut [] from 13 to 16 (fun wx => Has wx w.heap.size 71 #[.int .i64 x.kind,.string ⟨(Aq n ix x).name.toArray⟩,.int .i64 x.low,.int .i64 x.high,.int .i64 x.max,.slice C1 x.syms.length l1,.slice C2 x.ah.length l2,.int .i64 x.key,.int .i64 x.elem,.bool x.opn]∧Has wx (w.heap.size+1) 71 #[.int .i64 0,.string ⟨#[]⟩,.int .i64 0,.int .i64 0,.int .i64 0,.slice none 0 0,.slice none 0 0,.int .i64 0,.int .i64 0,.bool false]∧Below w.heap.size w wx)
 case first =>
  clear hT0 hR0 hW0;cases bq with
  | false =>
   have hq:(Aq n ix x).name=x.name:=by unfold Aq;simp [HB1.out rfl]
   have HQ:=hiQ hq;clear hq;go_wp2_with fail;go_meet
   case rel => exact ⟨by rw [HQ.out];exact T.out,R.out,hw3⟩
  | true =>
   have hq:(Aq n ix x).name=rF 84 n:=by unfold Aq;simp [HB2.out rfl]
   have HQ:=hiQ hq;have hni:I64 (n:Int):=by unfold I64;omega
   have hnl:=af5 84 n hni;have hil:(Lib.itoa n).length≤30:=by unfold rF at hnl;rw [List.length_cons] at hnl;omega
   clear hq hnl;go_wp2_with fail;((with_reducible refine (arN n hni _ (HP.out.on hw3)).mono ?_);rintro e wd4 ⟨rfl,hb5⟩);obtain ⟨T,R⟩:=b2 T R hb5;replace hw3:=dT hw3 hb5;clear hb5;obtain ⟨q,hq⟩ : ∃ q,Lib.itoa (n:Int)=q:=⟨_,rfl⟩
   have hstr:Hid (rF 84 n=84 :: q):=by show _=_;rw [← hq];rfl
   rw [hq] at hil ⊢;clear hq;have bH:=T.out.e1;have O8:=T.out.free 1;go_wp2_with fail;rw [qO [84] q];clear bH O8;generalize mP:wd4.setCell _ _=wL;replace R:=f1 R (eF mP);replace T:=yT T mP;replace hw3:=tf hw3 mP;clear mP;go_meet
   case rel => exact ⟨by rw [HQ.out,hstr.out];exact T.out,R.out,hw3⟩
 case rest =>
  obtain ⟨T,R,hb0⟩:=hcut;clear hT0 hR0 hW0;obtain ⟨nm,HNM⟩ : ∃ nm,Hid (nm=(Aq n ix x).name):=⟨_,hiQ rfl⟩
  rw [← HNM.out] at T;replace T:=hiQ T;replace R:=hiQ R;have bP:=T.out.e5;go_wp2_with fail;have hRh:=R.out.here;clear bP;((with_reducible refine (aAD x C1 l1 C2 l2 _ hls (HX.out.on hb0)).mono ?_);rintro e wd4 ⟨v5,rfl,hown5,hb5⟩);obtain ⟨T,R⟩:=b2 T R hb5;replace hb0:=dT hb0 hb5;clear hb5;obtain ⟨A5,c5,rfl⟩:=jF hown5;have O5:=hiQ (Kept.own (own_base hown5 hRh));clear hown5;have bP:=T.out.e5;have aix:=T.out.free 5;go_upto_region 4 with fail;clear bP aix;generalize mP:wd4.setCell _ _=wL;obtain ⟨R,O5⟩:=f2 R O5 (eF mP);replace T:=Ea T mP;replace hb0:=tf hb0 mP;clear mP;have hown5:=O5.out.now;rw [← axM] at hown5;have hT0:=T.out;have hR0:=R.out;have hW0:=hb0;have bP:=T.out.e5;go_upto_region 5 with fail;clear bP;go_loopw [24] (fun s24 wr => ∃ k:Nat,k≤x.syms.length∧s24 = .int .i64 k∧wr.ownsRow (w.heap.size+2) 105 2 (.slice A5 x.syms.length c5) x.syms.length (aoe x.syms k)∧Has wr w.heap.size 71 #[.int .i64 x.kind,.string ⟨nm.toArray⟩,.int .i64 x.low,.int .i64 x.high,.int .i64 x.max,.slice A5 x.syms.length c5,.slice C2 x.ah.length l2,.int .i64 x.key,.int .i64 x.elem,.bool x.opn]∧Has wr (w.heap.size+1) 71 #[.int .i64 0,.string ⟨#[]⟩,.int .i64 0,.int .i64 0,.int .i64 0,.slice none 0 0,.slice none 0 0,.int .i64 0,.int .i64 0,.bool false]∧Below w.heap.size w wr) (fun s24 _ => x.syms.length - (intOf s24).toNat)
  case atStart => exact ⟨0,by omega,rfl,hown5,hT0,hR0,hW0⟩
  case round =>
   clear T R O5 hown5 hT0 hR0 hW0 hb0;obtain ⟨k,hk,rfl,hown,T,R,hb0⟩:=hrel;replace T:=hiQ T;replace R:=hiQ R;have O5:=hiQ (Kept.own hown);by_cases hlt:k < x.syms.length
   ·
    obtain ⟨g,rfl⟩ : ∃ g,A5=some ⟨g,0,none⟩:=by
     exact zCx
    obtain ⟨hs0,hs1⟩:=aAn x.syms k hlt;have hnx:=axN x.syms k hlt;have hgl:=(hown.lt g rfl)
    have Ib:=(HX.out.QL _ (List.getElem_mem hlt)).1;generalize x.syms[k]=y at *;obtain ⟨yi,yn⟩:=y;simp only at hs0 hs1 hnx Ib;have KC:=hiQ (Af ((hown.cellAt (k*2) (by omega)).trans hs0));have Y4:=hiQ hnx;have Eh:=hiQ hs0;have Ql:=hiQ hs1;have hnl:=af5 115 yi Ib;have hil:(Lib.itoa yi).length≤30:=by unfold rF at hnl;rw [List.length_cons] at hnl;omega
    have hi1:(k:Int) < x.syms.length:=by omega
    have hd0:decide ((k:Int) < 0)=false:=by simp
    have hd1:decide (x.syms.length≤k)=false:=by simpa using hlt
    clear hown hs0 hs1 hnx hnl;go_upto_region 7 with fail;have bP:=T.out.e5;refine wp_region_held_drew (S:=(fun w' => w'.cell? ⟨w.heap.size,5,none⟩=some (.slice (some ⟨g,0,none⟩) x.syms.length c5)∧(w'.cell? ⟨g,k*2,none⟩=some (.int .i64 yi)))) (by kernel_rfl) ⟨bP,(KC.out.now)⟩ (fun hHeld => ?_);clear bP;have hb8:Below wr.heap.size wr (wr.drew):=(Below.refl _ _).drew;obtain ⟨T,R,O5,KC⟩:=b4 T R O5 KC hb8;replace hb0:=dT hb0 hb8;clear hb8;generalize wr.drew=nM at *;refine tk 0 ?_;refine tk 1 ?_;refine tk 2 ?_;refine tk 3 ?_;refine tk 4 ?_;refine tk 5 ?_;refine tk 6 ?_;refine tk 7 ?_;refine tk 8 ?_;refine iE 9 fun K hK => ?_;go_simp;((with_reducible refine (arN yi Ib _ (HP.out.on hb0)).mono ?_);rintro e kL ⟨rfl,iR⟩);obtain ⟨T,R,O5,KC⟩:=b4 T R O5 KC iR;replace hb0:=dT hb0 iR;clear iR;(try clear hHeld);refine hK.out _ _ (⟨T.out.cell 5,(KC.out.now)⟩) (fun hHeld => ?_);clear hK K;obtain ⟨q,hq⟩ : ∃ q,Lib.itoa yi=q:=⟨_,rfl⟩
    have hstr:Hid (rF 115 yi=115 :: q):=by show _=_;rw [← hq];rfl
    rw [hq] at hil ⊢;have Ic:¬ 9223372036854775807 < 1+q.length:=by omega
    clear hq;refine tk 10 ?_;refine tk 11 ?_;refine tk 12 ?_;refine iE 13 fun K hK => ?_;have hown:=O5.out.now;have cN:=(hown.cellAt (k*2+1) (by omega)).trans Ql.out;have fN:=hown.frozenAt (k*2+1);go_simp;rw [qO [115] q];have hset:=(hown.stored (k*2+1) (.string ⟨([115] ++ q).toArray⟩)).1;rw [show ([115] ++ q:List UInt8)=rF 115 yi from hstr.out.symm,Y4.out] at hset;rw [show ([115] ++ q:List UInt8)=rF 115 yi from hstr.out.symm];clear cN fN hown Ic hstr O5 KC;generalize HEX:kL.setCell ⟨g,k*2+1,none⟩ (.string ⟨(rF 115 yi).toArray⟩)=lZ;obtain ⟨T,R⟩:=f2 T R (eF HEX);replace hb0:=tf hb0 HEX;rw [HEX] at hset;clear HEX;have hcK:lZ.cell? ⟨g,k*2,none⟩=some (.int .i64 yi):=(hset.cellAt (k*2) (by omega)).trans (by rw [← Y4.out,List.getElem?_set_ne (by omega)];exact Eh.out);have KC:=hiQ (Af hcK);have asW:=hiQ hset;clear hset hcK;(try clear hHeld);refine hK.out _ _ (⟨T.out.cell 5,(KC.out.now)⟩) (fun hHeld => ?_);clear hK K;refine wpAnyH_done (by kernel_rfl) ?_ _;(try clear hHeld);clear KC;go_wp2_with fail;go_roundw
    case rel => exact ⟨k+1,by omega,by go_num,asW.out,T.out,R.out,hb0⟩
    case measure => simp [intOf];omega
   obtain rfl:k=x.syms.length:=by omega
   rw [azc] at hown;clear O5;have O5:=hiQ (Kept.own hown);clear hown;have bP:=T.out.e5;have bf:=T.out.e6;go_wp2_with fail;have hRh:=R.out.here;clear bP bf;((with_reducible refine (HCL.out _ hb0).mono ?_);rintro e qP ⟨v6,rfl,hown6,zU⟩);obtain ⟨T,R,O5⟩:=b3 T R O5 zU;replace hb0:=dT hb0 zU;clear zU;obtain ⟨A6,c6,rfl⟩:=jF hown6;have hmr:anG w (w.heap.size+2) (.slice A6 x.ah.length c6) x.ah.length 0 ix x.ah qP:=⟨cm,_,own_base hown6 hRh,EM.YM _ _ _ (fun i hi => by obtain ⟨_,_,_,h,_⟩:=HCM.out i hi;rw [h];rfl),fun i _ h => by omega,fun i h _ => HCM.out i h⟩
   have M6:=hiQ (anG.kept hmr);clear hown6 hmr;have bf:=T.out.e6;have VD:=T.out.free 6;go_upto_region 10 with fail;clear bf VD;generalize kQ:qP.setCell _ _=kL;obtain ⟨R,O5,M6⟩:=f3 R O5 M6 (eF kQ);replace T:=qM T kQ;replace hb0:=tf hb0 kQ;clear kQ;have hT0:=T.out;have hR0:=R.out;have hW0:=hb0;have TF:=O5.out.now;have hM6:=M6.out.now;have bf:=T.out.e6;go_upto_region 11 with fail;clear bf;go_loopw [48] (fun s48 wr => ∃ k:Nat,k≤x.ah.length∧s48 = .int .i64 k∧wr.ownsRow (w.heap.size+2) 105 2 (.slice A5 x.syms.length c5) x.syms.length (jO (x.syms.map anL))∧anG w (w.heap.size+2) (.slice A6 x.ah.length c6) x.ah.length k ix x.ah wr∧Has wr w.heap.size 71 #[.int .i64 x.kind,.string ⟨nm.toArray⟩,.int .i64 x.low,.int .i64 x.high,.int .i64 x.max,.slice A5 x.syms.length c5,.slice A6 x.ah.length c6,.int .i64 x.key,.int .i64 x.elem,.bool x.opn]∧Has wr (w.heap.size+1) 71 #[.int .i64 0,.string ⟨#[]⟩,.int .i64 0,.int .i64 0,.int .i64 0,.slice none 0 0,.slice none 0 0,.int .i64 0,.int .i64 0,.bool false]∧Below w.heap.size w wr) (fun s48 _ => x.ah.length - (intOf s48).toNat)
   case atStart => exact ⟨0,by omega,rfl,TF,hM6,hT0,hR0,hW0⟩
   case round =>
    clear T R O5 M6 TF hM6 hT0 hR0 hW0 hb0;obtain ⟨k,hk,rfl,hown5,hmr,T,R,hb0⟩:=hrel;replace T:=hiQ T;replace R:=hiQ R;by_cases hlt:k < x.ah.length
    ·
     obtain ⟨c,xs,hown,FU,hdone,htodo⟩:=hmr.ex;obtain ⟨g,rfl⟩ : ∃ g,A6=some ⟨g,0,none⟩:=by
      exact zCx
     obtain ⟨vk,vi,vr,hck,hma⟩:=htodo k hlt (Nat.le_refl _);have hgl:=hown.lt g rfl;have hmx:x.ah[k] ∈ x.ah:=List.getElem_mem hlt;have hmu:arW x.ah[k] ∈ bn x:=List.mem_append_left _ (List.mem_map_of_mem hmx);have hty:0≤x.ah[k].ty:=HU.out _ hmu;have hto:(x.ah[k].ty).toNat ∈ outs x:=List.mem_map_of_mem (f:=fun u => u.2.toNat) hmu;have awu:=HC.out _ hto;have hib:=HIB.out (x.ah[k].ty).toNat;have aDv:∀ zk zi zr,Js (((ZK x.ah[k] vk vi vr).set 1 (.string ⟨(rF 102 x.ah[k].id).toArray⟩)).set 2 (.int .i64 (ix x.ah[k].ty.toNat:Nat))) 5 (oD x.ah[k].dflt zk zi zr)=ZK (aoc ix x.ah[k]) zk zi zr:=fun zk zi zr => rfl;have hrk:∀ w' S zk zi zr,jq w' S x.ah[k].dflt zk zi zr→as5 w' S (aoc ix x.ah[k]) zk zi zr:=fun w' S zk zi zr h => ⟨⟨hma.ints.1,by show I64 (ix _:Nat);unfold I64;omega⟩,by show (rF 102 x.ah[k].id).length≤_;have:=af5 102 x.ah[k].id hma.ints.1;omega,h⟩
     have aAG:=hiQ aDv;have HRK:=hiQ hrk;have aDM:=hiQ hdone;have aDN:=hiQ htodo;have aFc:=hiQ FU;obtain ⟨m,hm⟩ : ∃ m,m=x.ah[k]:=⟨_,rfl⟩
     have aFd:=hiQ hm;rw [← hm] at hck hma hty awu hib aAG HRK;obtain ⟨mi,mn,mt,mc,mh,mf⟩:=m;clear hm hmx hmu hto aDv hrk hdone htodo;simp only at hty awu hib;obtain ⟨u,rfl⟩ : ∃ u:Nat,mt=(u:Int):=⟨mt.toNat,by omega⟩
     simp only [Int.toNat_natCast] at awu hib aAG HRK;have aFe:=hiQ awu;obtain ⟨D1,d1,D2,d2,D3,d3,rfl,rfl,rfl,-,-,-⟩:=hma.dflt.forms;have hid:I64 mi:=hma.ints.1;have hnl:=af5 102 mi hid;have hil:(Lib.itoa mi).length≤30:=by unfold rF at hnl;rw [List.length_cons] at hnl;omega
     have HVD:=hiQ hma.dflt;have atH:aoJ wr (w.heap.size+2) g x.ah.length c6 k xs [.int .i64 mi,.string ⟨mn.toArray⟩,.int .i64 (u:Int),.bool mc,.bool mh,.int .i64 mf.kind,.bool mf.bool,.int .i64 mf.num,.string ⟨mf.str.toArray⟩,.int .i64 mf.id,.slice D1 mf.keys.length d1,.slice D2 mf.items.length d2,.slice D3 mf.rest.length d3]:=⟨hown,hlt,rfl,fun j v hv => FU.2.2 k hlt j v (by rw [hck];exact hv)⟩
     have MR:=hiQ (atH.kept);have KA:=hiQ (awt wr 0 g (Nat.le_of_lt hgl.2));obtain ⟨Gr,hGr⟩ : ∃ G,G=wr.heap.size:=⟨_,rfl⟩
     have KB:=hiQ (awt wr (g+1) Gr (Nat.le_of_eq hGr));have hgG:g < Gr:=by rw [hGr];exact hgl.2
     have hi1:(k:Int) < x.ah.length:=by omega
     have hd0:decide ((k:Int) < 0)=false:=by simp
     have hd1:decide (x.ah.length≤k)=false:=by simpa using hlt
     have WQ:=hiQ hck;have HO5:=hiQ hown5;have aFf:=hiQ (fun q (hq:(Value.slice A5 x.syms.length c5).ownBlock=some q) (e:q=g) => akR hown5 hown (by decide) hq (by rw [e];rfl));clear hown FU hck hma atH hnl awu hown5 hmr;have bf:=T.out.e6;go_upto_region 14 with fail;clear bf;refine awO (by kernel_rfl) ?_;refine tkN 2 ?_;refine tkN 15 ?_;refine tkN 16 ?_;refine tkN 17 ?_;refine aBO (S:=(fun w' => (w'.cell? ⟨g,k*13,none⟩=some (.int .i64 mi))∧(w'.cell? ⟨g,k*13+2,none⟩=some (.int .i64 (u:Int)))∧(w'.cell? ⟨g,k*13+5,none⟩=some (.int .i64 mf.kind))∧(w'.cell? ⟨g,k*13+6,none⟩=some (.bool mf.bool))∧(w'.cell? ⟨g,k*13+7,none⟩=some (.int .i64 mf.num))∧(w'.cell? ⟨g,k*13+8,none⟩=some (.string ⟨mf.str.toArray⟩))∧(w'.cell? ⟨g,k*13+9,none⟩=some (.int .i64 mf.id))∧(w'.cell? ⟨g,k*13+10,none⟩=some (.slice D1 mf.keys.length d1))∧(w'.cell? ⟨g,k*13+11,none⟩=some (.slice D2 mf.items.length d2))∧(w'.cell? ⟨g,k*13+12,none⟩=some (.slice D3 mf.rest.length d3)))) (fun j => j == 25 || j == 26 || j == 27 || j == 28) ⟨(MR.out.now.c 0 rfl),(MR.out.now.c 2 rfl),(MR.out.now.c 5 rfl),(MR.out.now.c 6 rfl),(MR.out.now.c 7 rfl),(MR.out.now.c 8 rfl),(MR.out.now.c 9 rfl),(MR.out.now.c 10 rfl),(MR.out.now.c 11 rfl),(MR.out.now.c 12 rfl)⟩ (fun hHeld => ?_);have fV:Below wr.heap.size wr (wr.drew):=(Below.refl _ _).drew;obtain ⟨T,R,MR,KA,KB⟩:=b5 T R MR KA KB fV;replace hb0:=dT hb0 fV;clear fV;generalize wr.drew=dQ at *;refine eH 0 ?_;refine eH 1 ?_;refine eH 3 ?_;refine eH 4 ?_;refine eH 5 ?_;refine eH 6 ?_;refine eH 9 ?_
     refine eH 10 ?_;refine eH 11 ?_;refine eH 12 ?_;refine eH 13 ?_;refine eH 18 ?_;refine gJ 7 fun K hK => ?_;go_simp;((with_reducible refine (arN mi hid _ (HP.out.on hb0)).mono ?_);rintro e oZ ⟨rfl,o7⟩);obtain ⟨T,R,MR,KA,KB⟩:=b5 T R MR KA KB o7;replace hb0:=dT hb0 o7;clear o7;(try clear hHeld);refine hK.out _ _ zAk (fun hHeld => ?_);clear hK K;obtain ⟨q,hq⟩ : ∃ q,Lib.itoa mi=q:=⟨_,rfl⟩
     have hstr:Hid (rF 102 mi=102 :: q):=by show _=_;rw [← hq];rfl
     rw [hq] at hil ⊢;have Ic:¬ 9223372036854775807 < 1+q.length:=by omega
     clear hq;refine eH 8 ?_;refine gJ 14 fun K hK => ?_;go_simp;((with_reducible refine (aFe.out _ hb0).mono ?_);rintro e yN ⟨rfl,mG⟩);obtain ⟨T,R,MR,KA,KB⟩:=b5 T R MR KA KB mG;replace hb0:=dT hb0 mG;clear mG;(try clear hHeld);refine hK.out _ _ zAk (fun hHeld => ?_);clear hK K;refine gJ 19 fun K hK => ?_;go_simp;obtain ⟨z6,Dn⟩ : ∃ z,z=(yN).heap.size:=⟨_,rfl⟩
     have hz6:=R.out.here;have hzG:=KB.out.le;rw [← Dn] at hz6 hzG;((with_reducible refine (awx (wt mf) mf _ _ _ _ (Nat.le_refl _) (HVD.out.keep (fun p hp => ((hb0).cell hp)) (hb0).size)).mono ?_);rintro e yx ⟨zk,zi,zr,rfl,hz,aln⟩);obtain ⟨T,R,MR,KA,KB⟩:=b5 T R MR KA KB aln;replace hb0:=dT hb0 aln;clear aln;obtain ⟨_,⟨Z1,z1,rfl,_⟩,_⟩:=id hz.keys;obtain ⟨_,⟨Z2,z2,rfl,_⟩,_⟩:=id hz.items;obtain ⟨_,Z3,z3,rfl,_⟩:=id hz.rest;obtain ⟨z7,Fb⟩ : ∃ z,z=(yx).heap.size:=⟨_,rfl⟩
     have HZ:=hiQ (yh.at_ hz Dn Fb);clear hz Dn Fb;(try clear hHeld);refine hK.out _ _ zAk (fun hHeld => ?_);clear hK K;refine gJ 20 fun K hK => ?_;go_simp;(try clear hHeld);refine hK.out _ _ zAk (fun hHeld => ?_);clear hK K;refine gJ 21 fun K hK => ?_;go_simp;(try clear hHeld);refine hK.out _ _ zAk (fun hHeld => ?_);clear hK K;refine gJ 22 fun K hK => ?_;have cM:=MR.out.now.c 1 rfl;have fM:=MR.out.now.f 1;go_simp;rw [qO [102] q,show ([102] ++ q:List UInt8)=rF 102 mi from hstr.out.symm];have hput:=MR.out.now.put 1 (.string ⟨(rF 102 mi).toArray⟩);clear cM fM MR;generalize HEX:yx.setCell ⟨g,k*13+1,none⟩ (.string ⟨(rF 102 mi).toArray⟩)=yO;obtain ⟨T,R,KA,KB,HZ⟩:=f5 T R KA KB HZ (eF HEX);replace hb0:=tf hb0 HEX;rw [HEX] at hput;clear HEX;have MR:=hiQ (hput.kept);clear hput;(try clear hHeld);refine hK.out _ _ zAk (fun hHeld => ?_);clear hK K;refine gJ 23 fun K hK => ?_;go_simp;(try clear hHeld);refine hK.out _ _ zAk (fun hHeld => ?_);clear hK K;refine gJ 24 fun K hK => ?_;go_simp;(try clear hHeld);refine hK.out _ _ zAk (fun hHeld => ?_);clear hK K;refine pG 25 fun K hK => ?_;have cM:=MR.out.now.c 2 rfl;have fM:=MR.out.now.f 2;go_simp;have hput:=MR.out.now.put 2 (.int .i64 (ix u:Nat));clear cM fM MR;generalize HEX:yO.setCell ⟨g,k*13+2,none⟩ (.int .i64 (ix u:Nat))=jU;obtain ⟨T,R,KA,KB,HZ⟩:=f5 T R KA KB HZ (eF HEX);replace hb0:=tf hb0 HEX;rw [HEX] at hput;clear HEX;have MR:=hiQ (hput.kept);clear hput;(try clear hHeld);refine hK.out _ _ ?_;clear hK K;refine pG 26 fun K hK => ?_;go_simp
     (try clear hHeld);refine hK.out _ _ ?_;clear hK K;refine pG 27 fun K hK => ?_;go_simp;(try clear hHeld);refine hK.out _ _ ?_;clear hK K;refine pG 28 fun K hK => ?_;have UY:=MR.out.now.1;have htl:=IC (size:=13) hlt;refine IE rfl 81 _ _ rfl g (k*13+5) _ rfl rfl (Ue UY (k*13+5) 8 (by omega)) (by kernel_rfl) (by simp [Value.oneCell']) ?_;have aq0:=FM (oD mf (.slice Z1 mf.keys.length z1) (.slice Z2 mf.items.length z2) (.slice Z3 mf.rest.length z3)) _ (k*13+5) _ UY
     change K _ (jU.setCells g (k*13+5) (oD mf (.slice Z1 mf.keys.length z1) (.slice Z2 mf.items.length z2) (.slice Z3 mf.rest.length z3)))
     clear MR;obtain ⟨lq,HEX⟩ : ∃ ww,ww=jU.setCells g (k*13+5) (oD mf (.slice Z1 mf.keys.length z1) (.slice Z2 mf.items.length z2) (.slice Z3 mf.rest.length z3)):=⟨_,rfl⟩
     rw [← HEX];have hkX:∀ k,k≠g→lq.heap[k]?=jU.heap[k]?:=fun k hk => by rw [HEX];exact DN g _ _ _ k hk
     have hbX:Below g jU lq:=by rw [HEX];exact below_setCells (Nat.le_refl _) _ _ _ (Below.refl _ _)
     replace T:=hiQ ((hkX (w.heap.size) (by omega)).trans T.out);replace T:Hid (Has lq (w.heap.size) 71 #[.int .i64 x.kind,.string ⟨nm.toArray⟩,.int .i64 x.low,.int .i64 x.high,.int .i64 x.max,.slice A5 x.syms.length c5,.slice (some ⟨g,0,none⟩) x.ah.length c6,.int .i64 x.key,.int .i64 x.elem,.bool x.opn]):=T;replace R:=hiQ ((hkX (w.heap.size+1) (by omega)).trans R.out);replace R:Hid (Has lq (w.heap.size+1) 71 #[.int .i64 0,.string ⟨#[]⟩,.int .i64 0,.int .i64 0,.int .i64 0,.slice none 0 0,.slice none 0 0,.int .i64 0,.int .i64 0,.bool false]):=R;replace KA:=hiQ (KA.out.move (fun k hl hb => hkX k (by omega)) hbX.size);replace KB:=hiQ (KB.out.move (fun k hl hb => hkX k (by omega)) hbX.size);replace HZ:=hiQ (HZ.out.move (fun k hl hb => hkX k (by omega)) hbX.size);replace hb0:=hb0.trans (hbX.mono (show w.heap.size≤g by omega));rw [← HEX] at aq0;clear HEX hkX hbX UY;have hmr:anG w (w.heap.size+2) (.slice (some ⟨g,0,none⟩) x.ah.length c6) x.ah.length (k+1) ix x.ah lq:=by
      have hA:=KA.out.now;have hB:=KB.out.now;have hne:∀ q,q≠g→q < Gr→lq.heap[q]?=wr.heap[q]?:=fun q h1 h2 => by
       rcases Nat.lt_or_ge q g with h | h
       · exact hA q (Nat.zero_le _) h
       exact hB q (by omega) h2
      have hbs:Gr≤lq.heap.size:=KB.out.le;refine ⟨_,_,aq0,EM.sub k hlt (oD mf (.slice Z1 mf.keys.length z1) (.slice Z2 mf.items.length z2) (.slice Z3 mf.rest.length z3)) 5 ((aFc.out.set1 k 1 (.string ⟨(rF 102 mi).toArray⟩) hlt (by omega)).set1 k 2 (.int .i64 (ix u:Nat)) hlt (by omega)) (by simp [oD]),fun i h hik => ?_,fun i h hik => ?_⟩
      ·
       by_cases e:i=k
       ·
        subst e;simp only [if_pos];rw [WQ.out,aAG.out,← aFd.out];obtain ⟨S,hv,hS⟩:=HZ.out.now;have aHd:=HZ.out.le;refine ⟨_,_,_,rfl,HRK.out _ _ _ _ _ (hv.keep (fun _ _ => rfl) (fun b hb => ?_))⟩;obtain ⟨hb1,hb2,_⟩:=hS b hb;refine ⟨by omega,by omega,fun e => ?_⟩;simp only [Value.ownBlock,Option.some.injEq] at e;omega
       simp only [if_neg e];exact (aDM.out i h (by omega)).keep (fun p hp => World.cell?_of_block (hne p.block (fun e => hp.2.2 (by rw [e];rfl)) (by have:=hp.2.1;omega))) (fun b hb => ⟨hb.1,by have:=hb.2.1;omega,hb.2.2⟩)
      simp only [if_neg (show i≠k by omega)];exact aDN.out i h (by omega)
     have ho5:lq.ownsRow (w.heap.size+2) 105 2 (.slice A5 x.syms.length c5) x.syms.length (jO (x.syms.map anL)):=by
      have hA:=KA.out.now;have hB:=KB.out.now;refine qo HO5.out fun q hq => ?_;have hqs:=HO5.out.lt q hq;have hqg:q≠g:=aFf.out q hq;rcases Nat.lt_or_ge q g with h | h
      · exact hA q (Nat.zero_le _) h
      exact hB q (by omega) (by omega)
     have HMR:=hiQ hmr;have HO6:=hiQ ho5;clear hmr ho5 aq0;(try clear hHeld);refine hK.out _ _ ?_;clear hK K;refine akJ (by kernel_rfl) ?_ _;(try clear hHeld);clear KA KB HZ;go_wp2_with fail;go_roundw
     case rel => exact ⟨k+1,by omega,by go_num,HO6.out,HMR.out,T.out,R.out,hb0⟩
     case measure => simp [intOf];omega
    obtain rfl:k=x.ah.length:=by omega
    have hall:=hmr.all rfl;have hsy:=IB.aAE hown5;have SY:=hiQ (aBN hsy);have ME:=hiQ (aAF hall);clear hmr hall hsy hown5;have HW2:=R.out.here;have HY:=hiQ (⟨by rw [HNM.out],rfl,rfl⟩ : (Aq n ix x).name=nm∧(Aq n ix x).key=(if x.kind=8 then ((ix x.key.toNat:Nat):Int) else x.key)∧(Aq n ix x).elem=(if x.kind=7∨x.kind=8∨x.kind=9 then ((ix x.elem.toNat:Nat):Int) else x.elem));have YX:=HX.out.ints;by_cases h8:x.kind=8
    ·
     have hk8:(0,x.key) ∈ bn x:=by rw [asr h8];simp
     have he8:(-1,x.elem) ∈ bn x:=by rw [asr h8];simp
     have hck:=HC.out _ (List.mem_map_of_mem (f:=fun u => u.2.toNat) hk8);have hce:=HC.out _ (List.mem_map_of_mem (f:=fun u => u.2.toNat) he8);simp only [Int.toNat_of_nonneg (HU.out _ hk8),Int.toNat_of_nonneg (HU.out _ he8)] at hck hce;have WQ:=hiQ hck;have HCE:=hiQ hce;have TN:Hid (dA (Aq n ix x) (.slice A5 x.syms.length c5) (.slice A6 x.ah.length c6) = .agg #[.int .i64 x.kind,.string ⟨nm.toArray⟩,.int .i64 x.low,.int .i64 x.high,.int .i64 x.max,.slice A5 x.syms.length c5,.slice A6 x.ah.length c6,.int .i64 (ix x.key.toNat:Nat),.int .i64 (ix x.elem.toNat:Nat),.bool x.opn]):=by
      obtain ⟨h1,h2,h3⟩:=HY.out;rw [if_pos h8] at h2;rw [if_pos (.inr (.inl h8))] at h3;show _=_;unfold dA;rw [h1,h2,h3]
      rfl
     have t8:(x.kind == 8)=true:=by simp [h8]
     clear h8 hk8 he8 hck hce HY;have aC:=T.out.e0;have bF:=T.out.e7;go_wp2_with fail;clear aC bF;((with_reducible refine (WQ.out _ hb0).mono ?_);rintro e lZ ⟨rfl,kR⟩);obtain ⟨T,R,SY,ME⟩:=b4 T R SY ME kR;replace hb0:=dT hb0 kR;clear kR;have bF:=T.out.e7;have VE:=T.out.free 7;go_upto_region 18 with fail;clear bF VE;generalize lW:lZ.setCell _ _=oZ;obtain ⟨R,SY,ME⟩:=f3 R SY ME (eF lW);replace T:=Ky T lW;replace hb0:=tf hb0 lW;clear lW;have aC:=T.out.e0;have aV:=T.out.e8;go_wp2_with fail;clear aC aV;((with_reducible refine (HCE.out _ hb0).mono ?_);rintro e yN ⟨rfl,mG⟩);obtain ⟨T,R,SY,ME⟩:=b4 T R SY ME mG;replace hb0:=dT hb0 mG;clear mG;have aV:=T.out.e8;have Jk:=T.out.free 8;go_upto_region 20 with fail;clear aV Jk;generalize Bl:yN.setCell _ _=yx;obtain ⟨R,SY,ME⟩:=f3 R SY ME (eF Bl);replace T:=JZ T Bl;replace hb0:=tf hb0 Bl;clear Bl;obtain ⟨aC,bH,bQ,acX,aW,bP,bf,bF,aV,aJ⟩:=T.out.c10;go_wp2_with (refine sR R.out ?_)
     clear aC bH bQ acX aW bP bf bF aV aJ;generalize WJ:yx.setRow _ _=yO;obtain ⟨T,SY,ME⟩:=f3 T SY ME (eR WJ);replace R:=dV R WJ;replace hb0:=tr hb0 WJ;clear WJ;exact bodyPost_ret (v:=.agg #[.int .i64 x.kind,.string ⟨nm.toArray⟩,.int .i64 x.low,.int .i64 x.high,.int .i64 x.max,.slice A5 x.syms.length c5,.slice A6 x.ah.length c6,.int .i64 (ix x.key.toNat:Nat),.int .i64 (ix x.elem.toNat:Nat),.bool x.opn]) (by simp [results,Tryz.results76,go_sem,R.out.c10]) rfl (⟨_,_,congrArg _ TN.out.symm,(arO n HN.out ix HIB.out HX.out SY.out.now ME.out.now).sub (fun b hb => ⟨by have:=hb.1;omega,by have:=hb.2;have:=SY.out.le;omega⟩),hb0,rfl⟩)
    by_cases Ur:x.kind=7∨x.kind=9
    ·
     have he8:(-1,x.elem) ∈ bn x:=by rw [asX Ur];simp
     have hce:=HC.out _ (List.mem_map_of_mem (f:=fun u => u.2.toNat) he8);simp only [Int.toNat_of_nonneg (HU.out _ he8)] at hce;have HCE:=hiQ hce;have TN:Hid (dA (Aq n ix x) (.slice A5 x.syms.length c5) (.slice A6 x.ah.length c6) = .agg #[.int .i64 x.kind,.string ⟨nm.toArray⟩,.int .i64 x.low,.int .i64 x.high,.int .i64 x.max,.slice A5 x.syms.length c5,.slice A6 x.ah.length c6,.int .i64 x.key,.int .i64 (ix x.elem.toNat:Nat),.bool x.opn]):=by
      obtain ⟨h1,h2,h3⟩:=HY.out;rw [if_neg h8] at h2;rw [if_pos (by omega)] at h3;show _=_;unfold dA;rw [h1,h2,h3]
      rfl
     have t8:(x.kind == 8)=false:=by simpa using h8
     rcases Ur with h7 | h7
     ·
      have t7:(x.kind == 7)=true:=by simp [h7]
      exact zCh
     have t7:(x.kind == 7)=false:=by simp [h7]
     have t9:(x.kind == 9)=true:=by simp [h7]
     exact zCh
    have TN:Hid (dA (Aq n ix x) (.slice A5 x.syms.length c5) (.slice A6 x.ah.length c6) = .agg #[.int .i64 x.kind,.string ⟨nm.toArray⟩,.int .i64 x.low,.int .i64 x.high,.int .i64 x.max,.slice A5 x.syms.length c5,.slice A6 x.ah.length c6,.int .i64 x.key,.int .i64 x.elem,.bool x.opn]):=by
     obtain ⟨h1,h2,h3⟩:=HY.out;rw [if_neg h8] at h2;rw [if_neg (by omega)] at h3;show _=_;unfold dA;rw [h1,h2,h3]
     rfl
    have t8:(x.kind == 8)=false:=by simpa using h8
    have t7:(x.kind == 7)=false:=by simpa using fun h => Ur (.inl h)
    have t9:(x.kind == 9)=false:=by simpa using fun h => Ur (.inr h)
    clear h8 Ur HY;obtain ⟨aC,bH,bQ,acX,aW,bP,bf,bF,aV,aJ⟩:=T.out.c10;go_wp2_with (refine sR R.out ?_)
    clear aC bH bQ acX aW bP bf bF aV aJ;generalize fU:wr.setRow _ _=lZ;obtain ⟨T,SY,ME⟩:=f3 T SY ME (eR fU);replace R:=dV R fU;replace hb0:=tr hb0 fU;clear fU;exact bodyPost_ret (v:=.agg #[.int .i64 x.kind,.string ⟨nm.toArray⟩,.int .i64 x.low,.int .i64 x.high,.int .i64 x.max,.slice A5 x.syms.length c5,.slice A6 x.ah.length c6,.int .i64 x.key,.int .i64 x.elem,.bool x.opn]) (by simp [results,Tryz.results76,go_sem,R.out.c10]) rfl (⟨_,_,congrArg _ TN.out.symm,(arO n HN.out ix HIB.out HX.out SY.out.now ME.out.now).sub (fun b hb => ⟨by have:=hb.1;omega,by have:=hb.2;have:=SY.out.le;omega⟩),hb0,rfl⟩)
end Go.Proofs.YtlamhkffnlgofaaGreatDoor
