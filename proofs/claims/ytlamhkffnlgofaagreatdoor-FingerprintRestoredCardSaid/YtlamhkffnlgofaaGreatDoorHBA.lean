/- What sheaveref18.Classes computes of a valid schema. What sheaveref18.index computes: a number's first place. Lists of types and of members that a call builds by append, parts of which lie below the call's own blocks. No condition. -/
import Derived.Test.YtlamhkffnlgofaaGreatDoorHAY
set_option maxHeartbeats 1600000
set_option maxRecDepth 100000
namespace Go.Proofs.YtlamhkffnlgofaaGreatDoor
open Go.ChangeShapes Go.WideShapes Go.ChangeAt Go.RowKit
theorem aBq (ts:List ay) (A:Option Addr) (c:Nat) (w:World) (hs:Sizes ts) (hv:fF ts=0) (ht:aU w w.heap.size (.slice A ts.length c) ts) :
  Calls Tryz.prog 66 #[.agg #[.slice A ts.length c]] w (aBI ts w):=by
 have HT:=hiQ ht;have hva:=fun W h => aaw ts A c W hs h;rw [hv] at hva;have HVa:=hiQ hva;have HR:=hiQ (fun W h1 h2 => avN ts ts A A c c W (by have:=(akN hv).len;omega) (by have:=(akN hv).len;omega) (akN hv).ah (akN hv).ah (akN hv).inu (akN hv).inu h1 h2);have hlen:=(akN hv).len;have FI:=hiQ (LJ hv);clear ht hv hva hs;go_enter Tryz.func66,Tryz.ntmps66
 go_upto_region 1 with fail;refine aO (fun wd2 hb1 S => ?_);have hw3:=hb1;clear hb1;have aH:=S.out.e0;go_wp2_with fail;clear aH;((with_reducible refine (HVa.out _ (HT.out.on hw3)).mono ?_);rintro e wd4 ⟨rfl,hb5⟩);replace S:=b1 S hb5;replace hw3:=dT hw3 hb5;clear hb5;have aH:=S.out.e0;go_wp2_with fail;have hSh:=S.out.here;clear aH;((with_reducible refine (HR.out _ (HT.out.on hw3) (HT.out.on hw3)).mono ?_);rintro e wL ⟨rb,cc,M,rfl,htab,hsh,awg,hb7⟩);replace S:=b1 S hb7;replace hw3:=dT hw3 hb7;clear hb7;have TB:=hiQ (Kept.tab (htab.base (L':=w.heap.size+1) (by omega)));have HSH:=hiQ hsh;have HBI:=hiQ awg;clear htab hsh awg;obtain ⟨LT,hLT⟩ : ∃ L,L=wL.heap.size:=⟨_,rfl⟩
 rw [← hLT] at TB;have aDe:=TB.out;have hS0:=S.out;have hLw:w.heap.size+1≤LT:=by have:=S.out.here;omega
 have hW0:=hw3;have hLs:=Nat.le_of_eq hLT;clear hLT;have hMl:M.length=ts.length:=HSH.out.1;go_upto_region 7 with fail;go_loopw [6,7] (fun s6 s7 wr => ∃ k:Nat,k≤ts.length∧s7 = .int .i64 k∧wr.ownsRow LT 3 1 s6 k ((List.range k).map fun i => .int .i64 (gI ts i:Nat))∧Has wr w.heap.size 25 #[.slice A ts.length c]∧Kept (fun w' => TabAt w' (w.heap.size+1) (.slice (some ⟨rb,0,none⟩) ts.length cc) M) wr (w.heap.size+1) LT∧LT≤wr.heap.size∧Below w.heap.size w wr) (fun _ s7 _ => ts.length - (intOf s7).toNat)
 case atStart => exact ⟨0,by omega,rfl,World.ownsRow_nil _ _ _ _,hS0,aDe,hLs,hW0⟩
 case round =>
  clear TB S hS0 aDe hW0 hLs;obtain ⟨k,hk,rfl,hown,S,hTB,hLs,hb⟩:=hrel;obtain ⟨A0,c0,rfl⟩:=jF hown;replace S:=hiQ S;have aH:=S.out.e0;by_cases hlt:k < ts.length
  ·
   have hi1:(k:Int) < ts.length:=by omega
   have hd0:decide ((k:Int) < 0)=false:=by simp
   have hd1:decide (ts.length≤k)=false:=by simpa using hlt
   have hkM:k < M.length:=by rw [HSH.out.1];exact hlt
   have hcl:=aqA FI.out hlt;have wO:=hiQ (aAo ts k);have HCB:=hiQ (aop.2 (alk FI.out hlt));have HCL:Hid (∀ j,j < gI ts k→aoY ts ts k j=false):=fun j hj => by
    cases hbj:aoY ts ts k j with
    | false => rfl
    | true => have:=atO (aop.1 hbj);omega
   generalize gI ts k=cl at *;go_upto_region 10 with fail;clear aH;have hS1:=S.out;go_loopw [8] (fun s8 wr2 => ∃ j:Nat,j≤cl∧s8 = .int .i64 j∧wr2.ownsRow LT 3 1 (.slice A0 k c0) k ((List.range k).map fun i => .int .i64 (gI ts i:Nat))∧Has wr2 w.heap.size 25 #[.slice A ts.length c]∧Kept (fun w' => TabAt w' (w.heap.size+1) (.slice (some ⟨rb,0,none⟩) ts.length cc) M) wr2 (w.heap.size+1) LT∧LT≤wr2.heap.size∧Below w.heap.size w wr2) (fun s8 _ => cl - (intOf s8).toNat)
   case atStart => exact ⟨0,by omega,rfl,hown,hS1,hTB,hLs,hb⟩
   case round =>
    clear S hS1 hown hTB hLs hb;obtain ⟨j,hj,rfl,hown,S,hTB,hLs,hb⟩:=hrel;replace S:=hiQ S;have TB:=hiQ (hTB);have O:=hiQ (Kept.own hown);clear hTB hown;have hjl:j < ts.length:=by omega
    have hln:M[k].length=ts.length:=HSH.out.2 k hkM;have hjM:j < M[k].length:=by rw [hln];exact hjl
    have aoi:M.at_ k j=M[k][j]:=by simp [Tab.at_,List.getD,hkM,hjM]
    obtain ⟨u,hrow⟩:=TB.out.now.row hkM;obtain ⟨rg,cu,rfl,-,-,-,hbc,-⟩:=hrow.pos hjM;have hrc:=hrow.cell;rw [hln] at hrc;rw [← aoi,HBI.out] at hbc;have hd2:decide ((j:Int) < 0)=false:=by simp
    have hd3:decide (ts.length≤j)=false:=by simpa using hjl
    have hi2:(j:Int) < ts.length:=by omega
    clear hrow aoi hjM hln;by_cases he:j=cl
    ·
     subst he;rw [HCB.out] at hbc;have hbase:LT≤wr.heap.size:=hLs;go_upto_region 12 with fail;go_upto_region 8 with (at_builtin;refine fA rfl _ _ _ rfl LT 3 _ 1 8 Tryz.underlying39 oP rfl (by decide) _ k _ rfl O.out.now [.int .i64 (j:Nat)] _ 1 _ rfl rfl rfl (by simp [Value.oneCell']) (by omega) (by omega) hbase ?_;intro g cap w3 hown3 hg3 hgat hb3)
     clear hg3 hgat hbase hrc hbc O;replace S:=hiQ (S.out.below hb3 (show w.heap.size < LT by omega));replace TB:=hiQ (TB.out.iJ hb3 (show LT≤LT by omega));replace hb:=hb.trans (hb3.mono (show w.heap.size≤LT by omega));have O:=hiQ (Kept.own hown3);clear hown3;go_wp2_with fail;go_roundw
     case rel => exact ⟨k+1,by omega,by go_num,by rw [wO.out];exact O.out.now,S.out,TB.out,by have:=O.out.le;have:=TB.out.le;omega,hb⟩
     case measure => simp [intOf];omega
    rw [HCL.out j (by omega)] at hbc;go_wp2_with fail;clear hrc hbc;go_roundw
    case rel => exact ⟨j+1,by omega,by go_num,O.out.now,S.out,TB.out,hLs,hb⟩
    case measure => simp [intOf];omega
  obtain rfl:k=ts.length:=by omega
  go_wp2_with fail;go_ret2;exact ⟨_,rfl,own_base hown (by omega),hb⟩
def auO (l:List Nat) (a:Nat):Int:=if a ∈ l then (l.idxOf a:Int) else -1
theorem azi:∀ (l:List Nat) (k a:Nat) (hk:k < l.length),l[k]=a→(∀ j,j < k→l[j]?≠some a)→l.idxOf a=k
 | [],_,_,hk,_,_ => by simp at hk
 | b :: r,0,a,_,h,_ => by simp at h;simp [h]
 | b :: r,k+1,a,hk,h,hn => by
  have hb:b≠a:=fun e => hn 0 (by omega) (by simp [e]);rw [List.idxOf_cons,show (b == a)=false by simpa using hb,cond_false,azi r k a (by simpa using hk) (by simpa using h) (fun j hj => by have:=hn (j+1) (by omega);simpa using this)]
theorem ayb (l:List Nat) (a:Nat) (v:Value) (w:World) (hl:l.length≤1000000) (hr:Rd w w.heap.size 1 v l.length (l.map nV)) :
  Calls Tryz.prog 68 #[v,.int .i64 (a:Nat)] w (RT w (.int .i64 (auO l a))):=by
 obtain ⟨A,c,rfl,hc⟩:=hr.form;have HR:=hiQ hr;clear hr;go_enter Tryz.func68,Tryz.ntmps68
 go_upto_region 2 with fail;go_loopw [5] (fun i wr => ∃ k:Nat,i = .int .i64 k∧k≤l.length∧(∀ j,j < k→l[j]?≠some a)∧Below w.heap.size w wr) (fun i _ => l.length - (intOf i).toNat)
 case atStart => exact ⟨0,rfl,by omega,fun _ h => by omega,Below.refl _ _⟩
 case round =>
  obtain ⟨k,rfl,hk,hn,hb⟩:=hrel;have HN:=hiQ hn;clear hn;by_cases hlt:k < l.length
  ·
   obtain ⟨b,o,rfl,hbb,hcell⟩:=HR.out.at_ (by omega);have hck:=(hb.cell (p:=⟨b,o+k,none⟩) hbb).trans (hcell k (nV l[k]) (by simp [List.getElem?_map,List.getElem?_eq_getElem hlt]));have hi1:(k:Int) < l.length:=by omega
   have hd0:decide ((k:Int) < 0)=false:=by simp
   have hd1:decide (l.length≤k)=false:=by simpa using hlt
   clear hcell;unfold nV at hck;by_cases he:l[k]=a
   ·
    have hx:Hid (auO l a=(k:Int)):=by show _=_;unfold auO;rw [if_pos (he ▸ List.getElem_mem hlt),azi l k a hlt he HN.out]
    rw [he] at hck;clear he;go_wp2_with fail;go_ret;exact ⟨bC hx.out.symm,hb⟩
   have hx:Hid (∀ j,j < k+1→l[j]?≠some a):=fun j hj => by
    by_cases e:j=k
    · subst e;rw [List.getElem?_eq_getElem hlt];intro e2;exact he (Option.some.inj e2)
    exact HN.out j (by omega)
   have hne:((l[k] : Nat):Int)≠(a:Int):=by omega
   have hq:(((l[k] : Nat):Int) == (a:Int))=false:=by simpa using hne
   generalize l[k]=z at *;clear he hne;go_wp2_with fail;go_roundw
   case rel => exact ⟨k+1,by go_num,by omega,hx.out,hb⟩
   case measure => simp [intOf];omega
  have hx:Hid (auO l a = -1):=by
   show _=_;unfold auO;rw [if_neg (fun hm => by
    obtain ⟨j,hj,e⟩:=List.getElem_of_mem hm;exact HN.out j (by omega) (by rw [List.getElem?_eq_getElem hj,e]))]
  go_wp2_with fail;go_ret;exact ⟨bC hx.out.symm,hb⟩
def alf (w:World) (C L B:Nat) (v:Value) (xs:List ay):Prop :=
 ∃ cs:List Value,w.ownsRow L 71 10 v xs.length cs∧(∀ k,v.ownBlock=some k→k < B)∧∀ (i:Nat) (h:i < xs.length),∃ vs vm,(cs.drop (i*10)).take 10=Pq xs[i] vs vm∧alC w (fun b => b < C∨(L≤b∧b < B∧v.ownBlock≠some b)) xs[i] vs vm
section
variable {w w' w0 w1:World} {C L B:Nat} {v:Value} {xs:List ay}
theorem alf.nil (w:World) (C L B:Nat):alf w C L B (.slice none 0 0) []:=⟨[],World.ownsRow_nil _ _ _ _,fun k h => (by cases h),fun i h => by simp at h⟩
theorem alf.keep (h:alf w C L B v xs) (hk:∀ k,L≤k→k < B→w'.heap[k]?=w.heap[k]?) (hC:∀ k,k < C→w'.heap[k]?=w.heap[k]?):alf w' C L B v xs:=by
 obtain ⟨cs,h1,h0,h2⟩:=h;refine ⟨cs,qo h1 fun k hb => hk k (h1.lt k hb).1 (h0 k hb),h0,fun i hi => ?_⟩;obtain ⟨vs,vm,h3,h4⟩:=h2 i hi;refine ⟨vs,vm,h3,h4.keep (fun p hp => World.cell?_of_block ?_) fun b hb => hb⟩;rcases hp with hp | hp
 · exact hC _ hp
 exact hk p.block hp.1 hp.2.1
theorem alf.kept (h:alf w C L B v xs) (hB:B≤w.heap.size) (h0:Below C w0 w):Kept (fun w' => Below C w0 w'→alf w' C L B v xs) w L B :=
 ⟨fun _ => h,fun _ hk hb => h.keep hk fun k hC => (hb.block k hC).trans (h0.block k hC).symm,hB⟩
theorem alf.mono {B':Nat} (h:alf w C L B v xs) (hB:B≤B'):alf w C L B' v xs:=by
 obtain ⟨cs,h1,h0,h2⟩:=h;refine ⟨cs,h1,fun k hk => Nat.lt_of_lt_of_le (h0 k hk) hB,fun i hi => ?_⟩;obtain ⟨vs,vm,h3,h4⟩:=h2 i hi;refine ⟨vs,vm,h3,h4.keep (fun _ _ => rfl) fun b hb => ?_⟩;rcases hb with hb | hb
 · exact .inl hb
 exact .inr ⟨hb.1,by omega,hb.2.2⟩
theorem alf.row (h:alf w C L B v xs) (hCL:C≤L):∃ cs:List Value,w.ownsRow L 71 10 v xs.length cs∧(∀ k,v.ownBlock=some k→k < B)∧∀ (w1:World) (v1:Value) (y:ay) (vs vm:Value) (B1:Nat),w.grownBy w1 v.ownBlock→w1.ownsRow L 71 10 v1 (xs.length+1) (cs ++ Pq y vs vm) →
  (∀ k,v1.ownBlock=some k→v.ownBlock=some k∨B≤k)→B≤w.heap.size→(∀ k,v1.ownBlock=some k→k < B1)→B≤B1→alC w (fun b => b < C∨(L≤b∧b < B1∧b < w.heap.size∧v.ownBlock≠some b∧v1.ownBlock≠some b)) y vs vm→C≤w.heap.size→alf w1 C L B1 v1 (xs ++ [y]):=by
 obtain ⟨cs,h1,h0,h2⟩:=h;refine ⟨cs,h1,h0,fun w1 v1 y vs vm B1 hg ho hr hB hlt hB1 hy hCw => ⟨cs ++ Pq y vs vm,by rw [List.length_append];exact ho,hlt,fun i hi => ?_⟩⟩;have hcl:cs.length=xs.length*10:=h1.1;have hkeep:∀ p:Addr,p.block < w.heap.size→v.ownBlock≠some p.block→w1.cell? p=w.cell? p:=fun p hp hn => World.cell?_of_block (hg.block p.block hp (fun e => hn e.symm));have hlow:∀ p:Addr,p.block < C→w1.cell? p=w.cell? p:=fun p hp => hkeep p (by omega) fun e => by have:=(h1.lt _ e).1;omega
 rcases Nat.lt_or_ge i xs.length with h3 | h3
 ·
  obtain ⟨vs2,vm2,h4,h5⟩:=h2 i h3;refine ⟨vs2,vm2,?_,?_⟩
  · rw [List.getElem_append_left h3,← h4,List.drop_append_of_le_length (by omega),List.take_append_of_le_length (by rw [List.length_drop];omega)]
  rw [List.getElem_append_left h3];refine h5.keep (fun p hp => ?_) fun b hb => ?_
  ·
   rcases hp with hp | hp
   · exact hlow p hp
   exact hkeep p (by have:=hp.2.1;omega) hp.2.2
  rcases hb with hb | hb
  · exact .inl hb
  refine .inr ⟨hb.1,by have:=hb.2.1;omega,fun e => ?_⟩;rcases hr b e with h6 | h6
  · exact hb.2.2 h6
  have:=hb.2.1;omega
 have h4:i=xs.length:=by rw [List.length_append] at hi;simp at hi;omega
 subst h4;refine ⟨vs,vm,?_,?_⟩
 ·
  rw [List.getElem_append_right (Nat.le_refl _),List.drop_append,List.drop_eq_nil_of_le (by omega),hcl,Nat.sub_self];simp [Pq]
 rw [List.getElem_append_right (Nat.le_refl _)];simp only [Nat.sub_self,List.getElem_cons_zero];refine hy.keep (fun p hp => ?_) fun b hb => ?_
 ·
  rcases hp with hp | hp
  · exact hlow p hp
  exact hkeep p hp.2.2.1 hp.2.2.2.1
 rcases hb with hb | hb
 · exact .inl hb
 exact .inr ⟨hb.1,hb.2.1,hb.2.2.2.2⟩
theorem alf.rd (h:alf w C L B v xs) (hB:B≤w.heap.size) (hC:C≤w.heap.size):aU w w.heap.size v xs:=by
 obtain ⟨cs,h1,h0,h2⟩:=h;have hcl:cs.length=xs.length*10:=h1.1;obtain ⟨A,c,hv,hc,h3⟩:=Rd.uX h1 |>.2;refine ⟨fun i => (cs.drop (i*10)).take 10,?_,fun i hi => ?_⟩
 ·
  refine ⟨A,c,hv,hc,?_⟩;rcases h3 with h3 | ⟨b,o,hA,hb,hcell⟩
  · exact .inl h3
  refine .inr ⟨b,o,hA,hb,fun i hi j u hu => ?_⟩;have hj:j < 10:=by
   have:=(List.getElem?_eq_some_iff.1 hu).1;simp at this;omega
  rw [List.getElem?_take_of_lt hj,List.getElem?_drop] at hu;have h4:=hcell (i*10+j) u hu;rwa [show o+(i*10+j)=o+i*10+j by omega] at h4
 obtain ⟨vs,vm,h3,h4⟩:=h2 i hi;refine ⟨vs,vm,h3,h4.at_ fun b hb => ?_⟩;rcases hb with hb | hb
 · omega
 have:=hb.2.1;omega
end
structure aoh (w0 wr:World) (L:Nat) (v:Value) (ms:List Mem):Prop where
 ex:∃ cs:List Value,wr.ownsRow L 83 13 v ms.length cs ∧
  ∀ (i:Nat) (h:i < ms.length),∃ vk vi vr,(cs.drop (i*13)).take 13=ZK ms[i] vk vi vr∧GH w0 w0.heap.size ms[i] vk vi vr
section
variable {w0 wr w1:World} {L:Nat} {v:Value} {ms:List Mem}
theorem aoh.nil (w0 wr:World) (L:Nat):aoh w0 wr L (.slice none 0 0) []:=⟨⟨[],World.ownsRow_nil _ _ _ _,fun i h => by simp at h⟩⟩
theorem aoh.kept (h:aoh w0 wr L v ms):Kept (fun W => aoh w0 W L v ms) wr L wr.heap.size:=by
 obtain ⟨cs,h1,h2⟩:=h.ex;exact ⟨h,fun _ hk => ⟨⟨cs,DI h1 hk,h2⟩⟩,Nat.le_refl _⟩
theorem aoh.row (h:aoh w0 wr L v ms):∃ cs:List Value,wr.ownsRow L 83 13 v ms.length cs∧∀ (w1:World) (v1:Value) (m:Mem) (vk vi vr:Value),w1.ownsRow L 83 13 v1 (ms.length+1) (cs ++ ZK m vk vi vr)→GH w0 w0.heap.size m vk vi vr→aoh w0 w1 L v1 (ms ++ [m]):=by
 obtain ⟨cs,h1,h2⟩:=h.ex;have hcl:cs.length=ms.length*13:=h1.1;refine ⟨cs,h1,fun w1 v1 m vk vi vr ho hm => ⟨⟨cs ++ ZK m vk vi vr,by rw [List.length_append];exact ho,fun i hi => ?_⟩⟩⟩;rcases Nat.lt_or_ge i ms.length with h3 | h3
 ·
  obtain ⟨a,b,c,h4,h5⟩:=h2 i h3;refine ⟨a,b,c,?_,?_⟩
  · rw [List.getElem_append_left h3,← h4,List.drop_append_of_le_length (by omega),List.take_append_of_le_length (by rw [List.length_drop];omega)]
  rw [List.getElem_append_left h3];exact h5
 have h4:i=ms.length:=by rw [List.length_append] at hi;simp at hi;omega
 subst h4;refine ⟨vk,vi,vr,?_,?_⟩
 ·
  rw [List.getElem_append_right (Nat.le_refl _),List.drop_append,List.drop_eq_nil_of_le (by omega),hcl,Nat.sub_self];simp [ZK,oD]
 rw [List.getElem_append_right (Nat.le_refl _)];simp only [Nat.sub_self,List.getElem_cons_zero];exact hm
theorem ValAt.aHA {w:World} {B:Nat} {x:Val} {vk vi vr:Value} (h:ValAt w B x vk vi vr):jq w (· < B) x vk vi vr:=by
 obtain ⟨hn,hs,hl,hri,⟨ck,h1,h2⟩,⟨ci,h3,h4⟩,h5⟩:=h;exact ⟨hn,hs,hl,hri,⟨ck,h1,fun i hi => (h2 i hi).toP⟩,⟨ci,h3,fun i hi => (h4 i hi).toP⟩,h5⟩
theorem GH.toP {w:World} {B:Nat} {m:Mem} {vk vi vr:Value} (h:GH w B m vk vi vr):as5 w (· < B) m vk vi vr:=⟨h.ints,h.GI,h.dflt.aHA⟩
theorem aoh.all (h:aoh w0 wr L v ms) (hb:Below w0.heap.size w0 wr):als wr (fun b => b < w0.heap.size∨(L≤b∧b < wr.heap.size)) v ms:=by
 obtain ⟨cs,h1,h2⟩:=h.ex;have hcl:cs.length=ms.length*13:=h1.1;obtain ⟨A,c,hv,hc,h3⟩:=(Rd.uX h1).2;refine ⟨fun i => (cs.drop (i*13)).take 13,?_,fun i hi => ?_⟩
 ·
  refine ⟨A,c,hv,hc,?_⟩;rcases h3 with h3 | ⟨b,o,hA,hS,hcell⟩
  · exact .inl h3
  refine .inr ⟨b,o,hA,.inr ⟨(h1.lt b (by rw [hv,hA];rfl)).1,hS⟩,fun i hi j u hu => ?_⟩;have hj:j < 13:=by
   have:=(List.getElem?_eq_some_iff.1 hu).1;simp at this;omega
  rw [List.getElem?_take_of_lt hj,List.getElem?_drop] at hu;have h4:=hcell (i*13+j) u hu;rwa [show o+(i*13+j)=o+i*13+j by omega] at h4
 obtain ⟨a,b,c,h4,h5⟩:=h2 i hi;exact ⟨a,b,c,h4,h5.toP.keep (fun p hp => hb.cell hp) fun b hb => .inl hb⟩
end
end Go.Proofs.YtlamhkffnlgofaaGreatDoor
