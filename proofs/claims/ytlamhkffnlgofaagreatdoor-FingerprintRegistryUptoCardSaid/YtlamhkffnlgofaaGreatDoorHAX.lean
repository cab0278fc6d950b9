/- Two rows of one-cell elements that a call owns, and appends to them within a region that draws. What schema.symbols computes. No condition. -/
import Derived.Test.YtlamhkffnlgofaaGreatDoorHAG
import Derived.Deep.AppendLies
import Derived.Test.YtlamhkffnlgofaaGreatDoorIds
set_option maxHeartbeats 1600000
set_option maxRecDepth 100000
namespace Go.Proofs.YtlamhkffnlgofaaGreatDoor
open Go.ChangeShapes Go.WideShapes Go.ChangeAt Go.RowKit
theorem ab5:(Tryz.prog.info? 9).map (fun i => (i.zero,i.size,i.bytes))=some (some (.string ByteArray.empty),1,16):=by kernel_rfl
structure Two (w:World) (B:Nat) (v1:Value) (n1:Nat) (xs1:List Value) (v2:Value) (n2:Nat) (xs2:List Value):Prop where
 o1:w.ownsRow B 3 1 v1 n1 xs1
 o2:w.ownsRow B 9 1 v2 n2 xs2
 sp:∀ k,v1.ownBlock=some k→v2.ownBlock=some k→False
section
variable {w w':World} {B n1 n2:Nat} {v1 v2:Value} {xs1 xs2:List Value}
theorem Two.nil (w:World) (B:Nat):Two w B (.slice none 0 0) 0 [] (.slice none 0 0) 0 []:=⟨World.ownsRow_nil _ _ _ _,World.ownsRow_nil _ _ _ _,fun k h => by cases h⟩
theorem Two.heap (h:Two w B v1 n1 xs1 v2 n2 xs2) (hk:∀ k:Nat,B≤k→k < w.heap.size→w'.heap[k]?=w.heap[k]?):Two w' B v1 n1 xs1 v2 n2 xs2 :=
 ⟨DI h.o1 hk,DI h.o2 hk,h.sp⟩
theorem Two.on (h:Two w B v1 n1 xs1 v2 n2 xs2) (hb:Below w.heap.size w w'):Two w' B v1 n1 xs1 v2 n2 xs2:=h.heap fun _ _ hk => hb.block _ hk
theorem Two.lt1 (h:Two w B v1 n1 xs1 v2 n2 xs2):∀ k,v1.ownBlock=some k→k < w.heap.size:=fun k hk => (h.o1.lt k hk).2
theorem Two.lt2 (h:Two w B v1 n1 xs1 v2 n2 xs2):∀ k,v2.ownBlock=some k→k < w.heap.size:=fun k hk => (h.o2.lt k hk).2
end
theorem sepL {a b:Value} (h:∀ k,a.ownBlock=some k→b.ownBlock=some k→False):b.ownBlock=none∨b.ownBlock≠a.ownBlock:=by
 cases hv:b.ownBlock with
 | none => exact .inl rfl
 | some k => exact .inr (fun e => h k e.symm hv)
theorem Ef {w w1:World} {B:Nat} {r:Option Nat} (h:w.grownBy w1 r) (hB:B≤w.heap.size) (hr:∀ k,r=some k→B≤k):Below B w w1:=(Below.refl B w).grown h hB hr
theorem BJ {ops:Array Oper} {op:Oper} {a:Act} {w:World} {K:Act→World→Prop} {Q:Exit→Act→World→Prop} {E:Prop} (hgd:op.guard=none) (s x:Operand)
  (ho:op.op = .call { callee:=.builtin .append,args:=#[s,x],argTypes:=#[39,39] }) {B gN n1 n2:Nat} {v1 v2:Value} {xs1 xs2:List Value} (ht:Two w B v1 n1 xs1 v2 n2 xs2) (u:Value) (hs:a.eval s=v1)
  (hN:Has w gN 3 #[u]) (hx:a.eval x = .slice (some ⟨gN,0,none⟩) 1 1) (h1:u.oneCell'=true) (hn:n1 < 8000000000000) (hB:B≤w.heap.size)
  (h:∀ v w1,Two w1 B v (n1+1) (xs1 ++ [u]) v2 n2 xs2→Below B w w1→(∀ k,k < w.heap.size→v1.ownBlock≠some k→w1.heap[k]?=w.heap[k]?)→K (a.put op.dst v) w1) :
  if Region.wanted op (yielded ops a.tmps)=true then Oper.wp Tryz.prog op a w K Q else E:=by
 obtain ⟨i0,hi,hz0,hz1,hz2⟩:=info_parts oP;refine step_append_lies (P:=Tryz.prog) w hgd s x _ ho B 3 i0 _ 1 8 Tryz.underlying39 hi hz0 hz1 hz2 rfl (by decide) v1 n1 xs1 hs ht.o1 ⟨gN,0,none⟩ 1 1 [u] hx rfl (World.news_of_block hN) (by simpa using h1) (by omega) (by simp only [maxLen];omega) (by omega) hB w.heap.size rfl ?_;intro g cap w1 hown hgr hat _;have hsp:∀ k,(Value.slice (some ⟨g,0,none⟩) (n1+1) cap).ownBlock=some k→v2.ownBlock=some k→False:=by
  intro k hk hk2;have hg:g=k:=by injection hk
  rcases hat with h2 | h2
  · rw [hg] at h2;exact ht.sp k h2 hk2
  have:=ht.lt2 k hk2;omega
 refine h _ w1 ⟨hown,ht.o2.kept hgr (sepL ht.sp),hsp⟩ (Ef hgr hB (fun k hk => (ht.o1.lt k hk).1)) (fun k hk hne => hgr.block k hk (fun e => hne e.symm))
theorem BK {ops:Array Oper} {op:Oper} {a:Act} {w:World} {K:Act→World→Prop} {Q:Exit→Act→World→Prop} {E:Prop} (hgd:op.guard=none) (s x:Operand)
  (ho:op.op = .call { callee:=.builtin .append,args:=#[s,x],argTypes:=#[190,190] }) {B gN n1 n2:Nat} {v1 v2:Value} {xs1 xs2:List Value} (ht:Two w B v1 n1 xs1 v2 n2 xs2) (u:Value) (hs:a.eval s=v2)
  (hN:Has w gN 9 #[u]) (hx:a.eval x = .slice (some ⟨gN,0,none⟩) 1 1) (h1:u.oneCell'=true) (hn:n2 < 8000000000000) (hB:B≤w.heap.size)
  (h:∀ v w1,Two w1 B v1 n1 xs1 v (n2+1) (xs2 ++ [u])→Below B w w1→(∀ k,k < w.heap.size→v2.ownBlock≠some k→w1.heap[k]?=w.heap[k]?)→K (a.put op.dst v) w1) :
  if Region.wanted op (yielded ops a.tmps)=true then Oper.wp Tryz.prog op a w K Q else E:=by
 obtain ⟨i0,hi,hz0,hz1,hz2⟩:=info_parts ab5;refine step_append_lies (P:=Tryz.prog) w hgd s x _ ho B 9 i0 _ 1 16 Tryz.underlying190 hi hz0 hz1 hz2 rfl (by decide) v2 n2 xs2 hs ht.o2 ⟨gN,0,none⟩ 1 1 [u] hx rfl (World.news_of_block hN) (by simpa using h1) (by omega) (by simp only [maxLen];omega) (by omega) hB w.heap.size rfl ?_;intro g cap w1 hown hgr hat _;have hsp:∀ k,(Value.slice (some ⟨g,0,none⟩) (n2+1) cap).ownBlock=some k→v1.ownBlock=some k→False:=by
  intro k hk hk2;have hg:g=k:=by injection hk
  rcases hat with h2 | h2
  · rw [hg] at h2;exact ht.sp k hk2 h2
  have:=ht.lt1 k hk2;omega
 refine h _ w1 ⟨ht.o1.kept hgr (sepL fun k h1 h2 => ht.sp k h2 h1),hown,fun k h1 h2 => hsp k h2 h1⟩ (Ef hgr hB (fun k hk => (ht.o2.lt k hk).1)) (fun k hk hne => hgr.block k hk (fun e => hne e.symm))
theorem Two.kept {w:World} {B n1 n2:Nat} {v1 v2:Value} {xs1 xs2:List Value} (h:Two w B v1 n1 xs1 v2 n2 xs2):Kept (fun w => Two w B v1 n1 xs1 v2 n2 xs2) w B w.heap.size :=
 ⟨h,fun _ hk => h.heap hk,Nat.le_refl _⟩
def wu (l:List Raw):Bool:=decide (0 < l.length) && nP l
theorem Bj {α β:Type} (f:α→β) (l:List α) (k:Nat) (h:k < l.length):(l.take (k+1)).map f=(l.take k).map f ++ [f l[k]]:=by
 rw [List.take_succ_eq_append_getElem h,List.map_append];rfl
def Jr (r:Raw):Value:=.int .i64 r.1
def EL (r:Raw):Value:=.string ⟨r.2.toArray⟩
theorem zAa {p:Prop} (h:p:=by exact ⟨X.out.cell 0,X.out.cell 1⟩):p:=h
theorem zBv {p:Prop} (h:p:=by
 replace hb:=hb.trans (hbB.mono (show w.heap.size≤w.heap.size by omega));have TW:=hiQ (Two.kept htw);clear htw hkk hbB;(try clear hHeld);refine hK.out _ _ zAa (fun hHeld => ?_);clear hK K;refine wpAnyH_take (i:=10) (v := ?_) rfl (by kernel_rfl) (by kernel_rfl) (by kernel_rfl) (fun _ _ _ h => h) (Or.inl ⟨by rfl,?_⟩) (by assumption) ?_
 case refine_2 => (intro w hSw;(try dsimp only at hSw);go_simp;(first | done | with_reducible rfl))
 try simp only [kM]
 refine wpAnyH_take (i:=11) (v := ?_) rfl (by kernel_rfl) (by kernel_rfl) (by kernel_rfl) (fun _ _ _ h => h) (Or.inl ⟨by rfl,?_⟩) (by assumption) ?_
 case refine_2 => (intro w hSw;(try dsimp only at hSw);go_simp;(first | done | with_reducible rfl))
 try simp only [kM]
 refine wpAnyH_done (by kernel_rfl) ?_ _;(try clear hHeld);go_wp2_with fail;go_roundw
 case rel => exact ⟨k+1,by omega,by go_num,by rw [HT1.out,HT2.out];exact TW.out.now,hb⟩
 case measure => simp [intOf];omega):p:=h
theorem zHi {p:Prop} (h:p:=by
 refine hK.out _ _ zAa (fun hHeld => ?_);clear hK K;refine wpAnyH_ready (rs:=[9]) (by kernel_rfl) (by simp) ?_;refine AllReadyH.cons rfl (fun K hK => ?_) (AllReadyH.nil);refine BK (by rfl) _ _ (by rfl) TW.out.now (.string ⟨s.toArray⟩) (by rfl) N2.out (by rfl) rfl (by omega) (hb).size ?_;intro v2' w1 htw hbB hkk;clear TW;replace X:=dG X hkk (fun hh => by have:=hZ2 _ hh;omega);replace N1:=dG N1 hkk (fun hh => by have:=hZ2 _ hh;omega);replace N2:=dG N2 hkk (fun hh => by have:=hZ2 _ hh;omega);exact zBv):p:=h
theorem XY (l:List Raw) (va:Value) (w:World) (hl:l.length≤6000000000000) (hri:∀ r ∈ l,yR r) (h1:Rd w w.heap.size 2 va l.length (jO l)) :
  Calls Tryz.prog 118 #[va] w (RTq w (.bool (wu l))):=by
 obtain ⟨A,c,rfl,hca⟩:=h1.form;have H1:=hiQ h1;have Om:=hiQ hri;clear h1 hri;go_enter Tryz.func118,Tryz.ntmps118
 go_wp2_with fail;go_loopw [3,4,9] (fun s3 s4 i wr => ∃ k:Nat,k≤l.length∧i = .int .i64 k∧Two wr w.heap.size s3 k ((l.take k).map Jr) s4 k ((l.take k).map EL)∧Below w.heap.size w wr) (fun _ _ i _ => l.length - (intOf i).toNat)
 case atStart => exact ⟨0,by omega,rfl,Two.nil _ _,Below.refl _ _⟩
 case round =>
  obtain ⟨k,hk,rfl,htw,hb⟩:=hrel;by_cases hlt:k < l.length
  ·
   obtain ⟨b,o,rfl,hb1,hc1⟩:=(H1.out.below hb).at_ (by omega);obtain ⟨x1,x2⟩:=qy hc1 k hlt;have HT1:Hid ((l.take (k+1)).map Jr=(l.take k).map Jr ++ [.int .i64 l[k].1]):=Bj Jr l k hlt;have HT2:Hid ((l.take (k+1)).map EL=(l.take k).map EL ++ [.string ⟨l[k].2.toArray⟩]):=Bj EL l k hlt;have hi1:(k:Int) < l.length:=by omega
   have hZ1:=htw.lt1;have hZ2:=htw.lt2;generalize l[k].1=a at *;generalize l[k].2=s at *;clear hc1;have TW:=hiQ (Two.kept htw);clear htw;go_upto_region 6 with fail;refine aO (fun wd2 hb1 X => ?_);have hl4:=TW.out.le;have hl5:=hb.size;replace TW:=b1 TW hb1;replace hb:=dT hb hb1;clear hb1;generalize wr.heap.size=g3 at *;clear x1 x2;obtain ⟨aK,bJ⟩:=X.out.c2;refine wp_region_held_drew (S:=(fun w' => w'.cell? ⟨g3,0,none⟩=some (.int .i64 a)∧w'.cell? ⟨g3,1,none⟩=some (.string ⟨s.toArray⟩))) (by kernel_rfl) ⟨aK,bJ⟩ (fun hHeld => ?_);clear aK bJ;have hb6:Below wd2.heap.size wd2 (wd2.drew):=(Below.refl _ _).drew;obtain ⟨X,TW⟩:=b2 X TW hb6;replace hb:=dT hb hb6;clear hb6;generalize wd2.drew=jC at *;refine wpAnyH_take (i:=0) (v := ?_) rfl (by kernel_rfl) (by kernel_rfl) (by kernel_rfl) (fun _ _ _ h => h) (Or.inl ⟨by rfl,?_⟩) (by assumption) ?_
   case refine_2 => (intro w hSw;(try dsimp only at hSw);go_simp;(first | done | with_reducible rfl))
   try simp only [kM]
   refine wpAnyH_take (i:=1) (v := ?_) rfl (by kernel_rfl) (by kernel_rfl) (by kernel_rfl) (fun _ _ _ h => h) (Or.inl ⟨by rfl,?_⟩) (by assumption) ?_
   case refine_2 => (intro w hSw;(try dsimp only at hSw);go_simp;(first | done | with_reducible rfl))
   try simp only [kM]
   refine wpAnyH_take (i:=2) (v := ?_) rfl (by kernel_rfl) (by kernel_rfl) (by kernel_rfl) (fun _ _ _ h => h) (Or.inl ⟨by rfl,?_⟩) (by assumption) ?_
   case refine_2 => (intro w hSw;(try dsimp only at hSw);go_simp;(first | done | with_reducible rfl))
   try simp only [kM]
   refine wpAnyH_take (i:=5) (v := ?_) rfl (by kernel_rfl) (by kernel_rfl) (by kernel_rfl) (fun _ _ _ h => h) (Or.inl ⟨by rfl,?_⟩) (by assumption) ?_
   case refine_2 => (intro w hSw;(try dsimp only at hSw);go_simp;(first | done | with_reducible rfl))
   try simp only [kM]
   refine wpAnyH_take (i:=6) (v := ?_) rfl (by kernel_rfl) (by kernel_rfl) (by kernel_rfl) (fun _ _ _ h => h) (Or.inl ⟨by rfl,?_⟩) (by assumption) ?_
   case refine_2 => (intro w hSw;(try dsimp only at hSw);go_simp;(first | done | with_reducible rfl))
   try simp only [kM]
   refine wpAnyH_take (i:=7) (v := ?_) rfl (by kernel_rfl) (by kernel_rfl) (by kernel_rfl) (fun _ _ _ h => h) (Or.inl ⟨by rfl,?_⟩) (by assumption) ?_
   case refine_2 => (intro w hSw;(try dsimp only at hSw);go_simp;(first | done | with_reducible rfl))
   try simp only [kM]
   refine wpAnyH_ready (rs:=[3,8]) (by kernel_rfl) (by simp) ?_;refine AllReadyH.cons rfl (fun K hK => ?_) (AllReadyH.cons rfl (fun K hK => ?_) (AllReadyH.nil))
   ·
    skip
    go_simp;refine aO (fun nM hb8 N1 => ?_);have sH:=X.out.here;have hl12:=TW.out.le;have alh:=hb.size;obtain ⟨X,TW⟩:=b2 X TW hb8;replace hb:=dT hb hb8;clear hb8;generalize jC.heap.size=g10 at *;(try clear hHeld);refine hK.out _ _ zAa (fun hHeld => ?_);clear hK K;refine wpAnyH_ready (rs:=[4,8]) (by kernel_rfl) (by simp) ?_;refine AllReadyH.cons rfl (fun K hK => ?_) (AllReadyH.cons rfl (fun K hK => ?_) (AllReadyH.nil))
    ·
     skip
     refine BJ (by rfl) _ _ (by rfl) TW.out.now (.int .i64 a) (by rfl) N1.out (by rfl) rfl (by omega) (hb).size ?_;intro v1' w1 htw hbB hkk;clear TW;replace X:=dG X hkk (fun hh => by have:=hZ1 _ hh;omega);replace N1:=dG N1 hkk (fun hh => by have:=hZ1 _ hh;omega);replace hb:=hb.trans (hbB.mono (show w.heap.size≤w.heap.size by omega));have TW:=hiQ (Two.kept htw);clear htw hkk hbB;(try clear hHeld);refine hK.out _ _ zAa (fun hHeld => ?_);clear hK K;refine wpAnyH_ready (rs:=[8]) (by kernel_rfl) (by simp) ?_;refine AllReadyH.cons rfl (fun K hK => ?_) (AllReadyH.nil);go_simp;refine aO (fun jA jh N2 => ?_);have sO:=X.out.here;have sW:=N1.out.here;have Az:=TW.out.le;have BQ:=hb.size;obtain ⟨X,N1,TW⟩:=b3 X N1 TW jh;replace hb:=dT hb jh;clear jh;generalize w1.heap.size=g16 at *;(try clear hHeld);exact zHi
    skip
    go_simp;refine aO (fun jA jh N2 => ?_);have sO:=X.out.here;have sW:=N1.out.here;have Az:=TW.out.le;have BQ:=hb.size;obtain ⟨X,N1,TW⟩:=b3 X N1 TW jh;replace hb:=dT hb jh;clear jh;generalize nM.heap.size=g16 at *;(try clear hHeld);refine hK.out _ _ zAa (fun hHeld => ?_);clear hK K;refine wpAnyH_ready (rs:=[4]) (by kernel_rfl) (by simp) ?_;refine AllReadyH.cons rfl (fun K hK => ?_) (AllReadyH.nil);refine BJ (by rfl) _ _ (by rfl) TW.out.now (.int .i64 a) (by rfl) N1.out (by rfl) rfl (by omega) (hb).size ?_;intro v1' w1 htw hbB hkk;clear TW;replace X:=dG X hkk (fun hh => by have:=hZ1 _ hh;omega);replace N1:=dG N1 hkk (fun hh => by have:=hZ1 _ hh;omega);replace N2:=dG N2 hkk (fun hh => by have:=hZ1 _ hh;omega);replace hb:=hb.trans (hbB.mono (show w.heap.size≤w.heap.size by omega));have TW:=hiQ (Two.kept htw);clear htw hkk hbB;(try clear hHeld);exact zHi
   skip
   go_simp;refine aO (fun nM hb8 N2 => ?_);have sH:=X.out.here;have hl12:=TW.out.le;have alh:=hb.size;obtain ⟨X,TW⟩:=b2 X TW hb8;replace hb:=dT hb hb8;clear hb8;generalize jC.heap.size=g10 at *;(try clear hHeld);refine hK.out _ _ zAa (fun hHeld => ?_);clear hK K;refine wpAnyH_ready (rs:=[3]) (by kernel_rfl) (by simp) ?_;refine AllReadyH.cons rfl (fun K hK => ?_) (AllReadyH.nil);go_simp;refine aO (fun jA jh N1 => ?_);have sO:=X.out.here;have sW:=N2.out.here;have Az:=TW.out.le;have BQ:=hb.size;obtain ⟨X,N2,TW⟩:=b3 X N2 TW jh;replace hb:=dT hb jh;clear jh;generalize nM.heap.size=g16 at *;(try clear hHeld);refine hK.out _ _ zAa (fun hHeld => ?_);clear hK K;refine wpAnyH_ready (rs:=[4]) (by kernel_rfl) (by simp) ?_;refine AllReadyH.cons rfl (fun K hK => ?_) (AllReadyH.nil);refine BJ (by rfl) _ _ (by rfl) TW.out.now (.int .i64 a) (by rfl) N1.out (by rfl) rfl (by omega) (hb).size ?_;intro v1' w1 htw hbB hkk;clear TW;replace X:=dG X hkk (fun hh => by have:=hZ1 _ hh;omega);replace N2:=dG N2 hkk (fun hh => by have:=hZ1 _ hh;omega);replace N1:=dG N1 hkk (fun hh => by have:=hZ1 _ hh;omega);replace hb:=hb.trans (hbB.mono (show w.heap.size≤w.heap.size by omega));have TW:=hiQ (Two.kept htw);clear htw hkk hbB;(try clear hHeld);refine hK.out _ _ zAa (fun hHeld => ?_);clear hK K;refine wpAnyH_ready (rs:=[9]) (by kernel_rfl) (by simp) ?_;refine AllReadyH.cons rfl (fun K hK => ?_) (AllReadyH.nil);refine BK (by rfl) _ _ (by rfl) TW.out.now (.string ⟨s.toArray⟩) (by rfl) N2.out (by rfl) rfl (by omega) (hb).size ?_
   intro v2' w1 htw hbB hkk;clear TW;replace X:=dG X hkk (fun hh => by have:=hZ2 _ hh;omega);replace N2:=dG N2 hkk (fun hh => by have:=hZ2 _ hh;omega);replace N1:=dG N1 hkk (fun hh => by have:=hZ2 _ hh;omega);exact zBv
  obtain rfl:k=l.length:=by omega
  rw [List.take_of_length_le (Nat.le_refl _)] at htw;have hr1:=Rd.uX htw.o1;have hr2:=Rd.uX htw.o2;have HI:=hiQ (VY l _ _ wr (by omega) Om.out hr1 hr2);clear htw hr1 hr2;by_cases h0:l.length=0
  ·
   have Hs:Hid (wu l=false):=by show _=_;unfold wu;rw [h0];rfl
   have Hn:=hiQ (List.eq_nil_of_length_eq_zero h0);have hd:decide (0 < l.length)=false:=decide_eq_false (by omega);clear h0;go_wp2_with fail;go_ret;exact ⟨au Hs.out.symm,hb⟩
  have Hs:Hid (wu l=nP l):=by show _=_;unfold wu;rw [decide_eq_true (by omega)];rfl
  have hd:decide (0 < l.length)=true:=decide_eq_true (by omega);have hd2:(0:Int) < l.length:=by omega
  clear h0;go_wp2_with fail;refine HI.out.mono ?_;rintro e w2 ⟨rfl,hb2⟩;go_wp2_with fail;go_ret;exact ⟨au Hs.out.symm,hb.trans (hb2.mono hb.size)⟩
end Go.Proofs.YtlamhkffnlgofaaGreatDoor
