/- What schema.ids computes, and what else is used with it. No condition. -/
import Derived.Test.YtkaedmpppnnamaaGreatDoorHAC
import Derived.Deep.RegionHeld3
import Derived.Deep.RegionWith
import Derived.Deep.Cut
import Derived.Deep.DeepCutAuto
import Derived.Laws.Tables
import Derived.Deep.AppendLies
import Derived.Laws.CopyOwn
import Derived.IntWalk
import Derived.Deep.CutBlock
set_option maxHeartbeats 1600000
set_option maxRecDepth 100000
namespace Go.Proofs.YtkaedmpppnnamaaGreatDoor
open ChangeShapes WideShapes ChangeAt RowKit
def nO:List Raw->Option Int->List (List UInt8)->Bool
 | [],_,_ => true
 | r :: l,p,S => mM r.1 && (xH p r.1 && (!S.contains r.2 && (nameB r.2 && nO l (some r.1) (S ++ [r.2]))))
def nP (l:List Raw):Bool:=nO l none [] && decide (l.length<=16)
theorem SK (l:List Raw) (k:Nat) (h:k < l.length) (S:List (List UInt8)) (p:Option Int) :
  nO (l.drop k) p S=(mM l[k].1 && (xH p l[k].1 && (!S.contains l[k].2 && (nameB l[k].2 && nO (l.drop (k+1)) (some l[k].1) (S ++ [l[k].2]))))):=by
 rw [A_ h,nO]
theorem ao5 (l:List Raw) (k:Nat) (h:k < l.length):(l.take k).map Prod.snd ++ [l[k].2]=(l.take (k+1)).map Prod.snd:=by
 rw [vK h,Qw];rfl
theorem YG (a:Int) (h:a < 1):mM a=false:=by unfold mM;simp;omega
theorem YH (a:Int) (h:1000 < a):mM a=false:=by unfold mM;simp;omega
theorem YI (a:Int) (h1:1<=a) (h2:a<=1000):mM a=true:=by unfold mM;simp;omega
theorem zCq {p:Prop} (h:p:=by
 go_wp2_with fail;go_ret;exact ⟨au Hno.out.symm,hb⟩):p:=h
theorem zId {p:Prop} (h:p:=by
 have Hno:Hid (nP l=false):=by
  show _=_;unfold nP;rw [hid,hn];simp
 rw [hn] at hname;have HN:=hiQ hname;clear hid hset hc hname hn;go_wp2_with fail;refine (HN.out _).mono ?_;rintro e w2 ⟨rfl,rfl⟩;exact zCq):p:=h
theorem zIx {p:Prop} (h:p:=by
 have Hno:Hid (nP l=false):=by
  show _=_;unfold nP;rw [hid,hc];simp
 rw [hc] at hlook;clear hid hset hc;exact zCq):p:=h
theorem zJb {p:Prop} (h:p:=by
 have Hno:Hid (nP l=false):=by
  show _=_;unfold nP;rw [hid,YG a ha1];simp
 clear hid hlook hset;exact zCq):p:=h
theorem zJc {p:Prop} (h:p:=by
 have Hno:Hid (nP l=false):=by
  show _=_;unfold nP;rw [hid,YH a ha2];simp
 clear hid hlook hset;exact zCq):p:=h
theorem VY (l:List Raw) (va vn:Value) (w:World) (hl:l.length<=6000000000000) (gy:∀ r ∈ l,yR r) (h1:Rd w w.heap.size 1 va l.length (l.map fun r => .int .i64 r.1)) (h2:Rd w w.heap.size 1 vn l.length (l.map fun r => .string ⟨r.2.toArray⟩)) :
  Calls Tryz.prog 123 #[va,vn] w (RT w (.bool (nP l))):=by
 obtain ⟨A,c,rfl,hca⟩:=h1.form;obtain ⟨B,d,rfl,hcb⟩:=h2.form;have H1:=hiQ h1;have H2:=hiQ h2;have hmm:=@run_makeMap Tryz.prog;have Om:=hiQ gy;clear h1 h2 gy;go_enter Tryz.func123,Tryz.ntmps123
 go_wp2_with fail;clear hmm;go_loopw [11] (fun i wr => ∃ k:Nat,k<=l.length/\i = .int .i64 k/\qh wr w.heap.size k ((l.take k).map Prod.snd)/\nO l none []=nO (l.drop k) (nD l k) ((l.take k).map Prod.snd)/\Below w.heap.size w wr) (fun i _ => l.length - (intOf i).toNat)
 case atStart => exact ⟨0,by omega,rfl,qh.made w,by simp [nD],(g_ _ _).alloc (b_ _) _⟩
 case round =>
  obtain ⟨k,hk,rfl,hset,hid,hb⟩:=hrel;by_cases hlt:k < l.length
  .
   obtain ⟨b1,o1,rfl,hb1,hc1⟩:=(H1.out.below hb).at_ (by omega);obtain ⟨b2,o2,rfl,hb2,hc2⟩:=(H2.out.below hb).at_ (by omega);have x1:=hc1 k (.int .i64 l[k].1) (by simp [hlt]);have x2:=hc2 k (.string ⟨l[k].2.toArray⟩) (by simp [hlt]);rw [SK l k hlt] at hid;have hsl:=(Om.out _ (jl hlt)).2;obtain ⟨a,haq⟩ : ∃ a,l[k].1=a:=⟨_,rfl⟩
   obtain ⟨s,Fe⟩ : ∃ s,l[k].2=s:=⟨_,rfl⟩
   rw [haq] at x1 hid;rw [Fe] at x2 hid hsl;have hi1:(k:Int) < l.length:=by omega
   by_cases hk0:k=0
   .
    have hp:xH (nD l k) a=true:=by simp [nD,xH,hk0]
    have hkd:decide (0 < (k:Int))=false:=f_ (by omega);have apH:(k:Int)<=0:=by omega
    rw [hp,CX] at hid;clear hc1 hc2 hp hk0;have hlook:=hset.look s (by have:=(Om.out _ (jl hlt)).2;rw [Fe] at this;simp only [maxLen];omega);by_cases ha1:a < 1
    . exact zJb
    by_cases ha2:1000 < a
    . exact zJc
    rw [YI a (by omega) (by omega),CX] at hid;have ha3:1<=a/\a<=1000:=by omega
    clear ha1 ha2
    skip
    cases hc:((l.take k).map Prod.snd).contains s with
    | true =>
     exact zIx
    | false =>
     rw [hc] at hlook hid;rw [QI,CX] at hid;have hname:=fun W => yj s W;cases hn:nameB s with
     | false =>
      exact zId
     | true =>
      rw [hn] at hname hid;rw [CX] at hid;have HN:=hiQ hname;have avp:=hiQ hid;have aef:=hiQ hset;clear hid hset hc hname hn;go_wp2_with fail;refine (HN.out _).mono ?_;rintro e w2 ⟨rfl,rfl⟩;go_wp2_with (at_mapUpdate;refine aqP rfl _ _ _ rfl w.heap.size k _ rfl aef.out (by unfold maxLen;omega) s rfl rfl (by unfold maxLen;omega) ?_;intro w3 CB hg3)
      have hb3:=hb.grown hg3 hb.size (fun j hj => by cases hj;exact b_ _);have KZ:=hiQ CB;have HB3:=hiQ hb3;clear CB hg3 hb3 hlook;go_wp2_with fail;go_roundw
      case rel => exact ⟨k+1,by omega,by go_num,by have h:=KZ.out;rw [<- Fe,ao5 l (k) hlt] at h;exact h,by rw [avp.out,<- Fe,ao5 l (k) hlt,tZ l (k) hlt,haq],HB3.out⟩
      case measure => simp [intOf];omega
   obtain ⟨j,rfl⟩ : ∃ j,k=j+1:=⟨k - 1,by omega⟩
   have x0:=hc1 j (.int .i64 l[j].1) (by simp [show j < l.length by omega]);rw [tZ l j (by omega)] at hid;have hw2:((j:Int)+1).toNat=j+1:=by omega
   have hw3:(j:Int)+1 - 1=j:=by omega
   have hi2:(j:Int) < l.length:=by omega
   generalize l[j].1=q at *;clear hc1 hc2 hk0;have hlook:=hset.look s (by have:=(Om.out _ (jl hlt)).2;rw [Fe] at this;simp only [maxLen];omega);by_cases ha1:a < 1
   . exact zJb
   by_cases ha2:1000 < a
   . exact zJc
   rw [YI a (by omega) (by omega),CX] at hid;have ha3:1<=a/\a<=1000:=by omega
   clear ha1 ha2;by_cases hle:a<=q
   .
    have Hno:Hid (nP l=false):=by
     show _=_;unfold nP;rw [hid,show xH (some q) a=false by simp [xH];omega];simp
    clear hid hlook hset;exact zCq
   rw [show xH (some q) a=true by simp [xH];omega,CX] at hid;have hle2:q < a:=by omega
   clear hle;cases hc:((l.take (j+1)).map Prod.snd).contains s with
   | true =>
    exact zIx
   | false =>
    rw [hc] at hlook hid;rw [QI,CX] at hid;have hname:=fun W => yj s W;cases hn:nameB s with
    | false =>
     exact zId
    | true =>
     rw [hn] at hname hid;rw [CX] at hid;have HN:=hiQ hname;have avp:=hiQ hid;have aef:=hiQ hset;clear hid hset hc hname hn;go_wp2_with fail;refine (HN.out _).mono ?_;rintro e w2 ⟨rfl,rfl⟩;go_wp2_with (at_mapUpdate;refine aqP rfl _ _ _ rfl w.heap.size (j+1) _ rfl aef.out (by unfold maxLen;omega) s rfl rfl (by unfold maxLen;omega) ?_;intro w3 CB hg3)
     have hb3:=hb.grown hg3 hb.size (fun j hj => by cases hj;exact b_ _);have KZ:=hiQ CB;have HB3:=hiQ hb3;clear CB hg3 hb3 hlook;go_wp2_with fail;go_roundw
     case rel => exact ⟨(j+1)+1,by omega,by go_num,by have h:=KZ.out;rw [<- Fe,ao5 l ((j+1)) hlt] at h;exact h,by rw [avp.out,<- Fe,ao5 l ((j+1)) hlt,tZ l ((j+1)) hlt,haq],HB3.out⟩
     case measure => simp [intOf];omega
  have hke:k=l.length:=by omega
  rw [G_ (by omega)] at hid;have avp:=hiQ hid;clear hid hset;go_wp2_with fail;go_ret;exact ⟨au (by unfold nP;rw [avp.out];simp [nO];omega),hb⟩
theorem Has.c8 {w:World} {g:Nat} {T:TypeId} {a0 a1 a2 a3 a4 a5 a6 a7:Value} (h:Has w g T #[a0,a1,a2,a3,a4,a5,a6,a7]):w.cell? ⟨g,0,none⟩=some a0/\w.cell? ⟨g,1,none⟩=some a1/\w.cell? ⟨g,2,none⟩=some a2/\w.cell? ⟨g,3,none⟩=some a3/\w.cell? ⟨g,4,none⟩=some a4/\w.cell? ⟨g,5,none⟩=some a5/\w.cell? ⟨g,6,none⟩=some a6/\w.cell? ⟨g,7,none⟩=some a7 :=
 ⟨h.cell 0,h.cell 1,h.cell 2,h.cell 3,h.cell 4,h.cell 5,h.cell 6,h.cell 7⟩
theorem Has.c10 {w:World} {g:Nat} {T:TypeId} {a0 a1 a2 a3 a4 a5 a6 a7 a8 a9:Value} (h:Has w g T #[a0,a1,a2,a3,a4,a5,a6,a7,a8,a9]):w.cell? ⟨g,0,none⟩=some a0/\w.cell? ⟨g,1,none⟩=some a1/\w.cell? ⟨g,2,none⟩=some a2/\w.cell? ⟨g,3,none⟩=some a3/\w.cell? ⟨g,4,none⟩=some a4/\w.cell? ⟨g,5,none⟩=some a5/\w.cell? ⟨g,6,none⟩=some a6/\w.cell? ⟨g,7,none⟩=some a7/\w.cell? ⟨g,8,none⟩=some a8/\w.cell? ⟨g,9,none⟩=some a9 :=
 ⟨h.cell 0,h.cell 1,h.cell 2,h.cell 3,h.cell 4,h.cell 5,h.cell 6,h.cell 7,h.cell 8,h.cell 9⟩
theorem Has.c13 {w:World} {g:Nat} {T:TypeId} {a0 a1 a2 a3 a4 a5 a6 a7 a8 a9 a10 a11 a12:Value} (h:Has w g T #[a0,a1,a2,a3,a4,a5,a6,a7,a8,a9,a10,a11,a12]):w.cell? ⟨g,0,none⟩=some a0/\w.cell? ⟨g,1,none⟩=some a1/\w.cell? ⟨g,2,none⟩=some a2/\w.cell? ⟨g,3,none⟩=some a3/\w.cell? ⟨g,4,none⟩=some a4/\w.cell? ⟨g,5,none⟩=some a5/\w.cell? ⟨g,6,none⟩=some a6/\w.cell? ⟨g,7,none⟩=some a7/\w.cell? ⟨g,8,none⟩=some a8/\w.cell? ⟨g,9,none⟩=some a9/\w.cell? ⟨g,10,none⟩=some a10/\w.cell? ⟨g,11,none⟩=some a11/\w.cell? ⟨g,12,none⟩=some a12 :=
 ⟨h.cell 0,h.cell 1,h.cell 2,h.cell 3,h.cell 4,h.cell 5,h.cell 6,h.cell 7,h.cell 8,h.cell 9,h.cell 10,h.cell 11,h.cell 12⟩
theorem tH (w:World) (o:Obj):(w.alloc o).heap.size=w.heap.size+1:=by simp
theorem jY {B:Nat} {a w:World} (h:Below B a w) (hs:B<=a.heap.size) (o:Obj):Below B a (w.alloc o):=h.alloc (Jh hs h.size) o
theorem jS {B g:Nat} {a w:World} (h:Below B a w) (hB:B<=g) (i:Nat) (u:Value):Below B a (w.setCell ⟨g,i,none⟩ u):=h.setCell (p:=⟨g,i,none⟩) hB u
theorem oO {w:World} {g k:Nat} {T:TypeId} {cs cs':Array Value} (h:Has w g T cs) (hne:g≠k):Has (w.setRow k cs') g T cs:=(setRow_other _ _ _ _ hne).trans h
theorem kF {w:World} {g:Nat} {T:TypeId} {cs:Array Value} (h:Has w g T cs) (cs':Array Value):Has (w.setRow g cs') g T cs':=setRow_heap w g cs cs' T (0,0) h
theorem jF {w:World} {base:Nat} {e:TypeId} {size n:Nat} {v:Value} {xs:List Value} (h:w.ownsRow base e size v n xs):∃ A c,v = .slice A n c:=by
 obtain ⟨_,h2⟩:=h;rcases h2 with ⟨rfl,rfl⟩ | ⟨g,cap,cur,rfl,_⟩
 . exact ⟨_,_,rfl⟩
 exact ⟨_,_,rfl⟩
theorem Du {w:World} {base:Nat} {e:TypeId} {n:Nat} {v:Value} {xs:List Value} (h:w.ownsRow base e 1 v n xs) (hn:0 < n):∃ g c,v = .slice (some ⟨g,0,none⟩) n c/\base<=g/\g < w.heap.size/\n<=c/\∀ (j:Nat) (u:Value),xs[j]?=some u->w.cell? ⟨g,j,none⟩=some u:=by
 have h0:=h;obtain ⟨_,h2⟩:=h;rcases h2 with ⟨rfl,rfl⟩ | ⟨g,cap,cur,rfl,hb,hh,hc,_⟩
 . omega
 refine ⟨g,cap,rfl,hb,?_,hc,fun j u hu => ?_⟩
 . exact zGr
 have:=h0.cells (g:=g) rfl j u hu;have e:(⟨g,0,none⟩ : Addr).add j=⟨g,j,none⟩:=by unfold Addr.add;split <;> simp_all
 rwa [e] at this
theorem cell_far (w:World) (g i:Nat) (u:Value) (p:Addr) (h:p.block≠g):(w.setCell ⟨g,i,none⟩ u).cell? p=w.cell? p:=by
 have:=Below.heap_setCell w ⟨g,i,none⟩ u p.block h;exact D_ this
theorem fA {P:Program} {ops:Array Oper} {rest:List Oper} {o:Oper} {a:Act} {Q:Exit->Act->World->Prop} (hgd:o.guard=none) (s x:Operand) (t:TypeId)
  (ho:o.op = .call { callee:=.builtin .append,args:=#[s,x],argTypes:=#[t,t] })
  (base:Nat) (e:TypeId) (z:Value) (size bytes:Nat) (ht:P.underlying t=some (.slice e)) (hinfo:(P.info? e).map (fun i => (i.zero,i.size,i.bytes))=some (some z,size,bytes)) (hzs:z.cells.size=size) (hsz:0 < size)
  (v:Value) (n:Nat) (xs:List Value) (hs:a.eval s=v) {W:World} (hown:W.ownsRow base e size v n xs) (news:List Value) (te:TypeId) (c g0:Nat)
  (hx:a.eval x = .slice (some ⟨g0,0,none⟩) 1 c) (hg:g0=W.heap.size) (hl:news.length=size) (h1:∀ u ∈ news,u.oneCell'=true) (hsmall:n < 8000000000000) (hby:(n+1)*bytes<=140737488355328) (hbase:base<=W.heap.size)
  (h:∀ g cap w',w'.ownsRow base e size (.slice (some ⟨g,0,none⟩) (n+1) cap) (n+1) (xs ++ news)->(W.alloc (.cells news.toArray te)).grownBy w' v.ownBlock->(v.ownBlock=some g\/g=W.heap.size+1)->Below base W w'->wpList P ops Q rest (a.put o.dst (.slice (some ⟨g,0,none⟩) (n+1) cap)) w'):wpList P ops Q (o :: rest) a (W.alloc (.cells news.toArray te)):=by
 subst hg;obtain ⟨i0,hi,hz0,hz1,hz2⟩:=info_parts hinfo;refine wpList_append_lies _ hgd s x t ho base e i0 z size bytes ht hi hz0 hz1 hz2 hzs hsz v n xs hs (hown.alloc _) ⟨W.heap.size,0,none⟩ 1 c news hx (by omega) ?_ h1 (by omega) (by simp only [maxLen];omega) ?_ (by simp;omega) (W.heap.size+1) (by simp) ?_
 . exact zFo
 . omega
 intro g cap w' h2 h3 h4 _;exact h g cap w' h2 h3 h4 (grown_below hown hbase h3)
structure Kept (P:World->Prop) (w:World) (L B:Nat):Prop where
 now:P w
 st:∀ w',(∀ k:Nat,L<=k->k < B->w'.heap[k]?=w.heap[k]?)->P w'
 le:B<=w.heap.size
theorem Kept.move {P:World->Prop} {w w':World} {L B:Nat} (h:Kept P w L B) (hk:∀ k:Nat,L<=k->k < B->w'.heap[k]?=w.heap[k]?) (hs:w.heap.size<=w'.heap.size):Kept P w' L B :=
 ⟨h.st w' hk,fun w2 h2 => h.st w2 fun p hl hp => (h2 p hl hp).trans (hk p hl hp),Jh h.le hs⟩
theorem Kept.on {P:World->Prop} {w w':World} {L B:Nat} (h:Kept P w L B) (hb:Below w.heap.size w w'):Kept P w' L B :=
 h.move (fun _ _ hp => hb.block _ (u_ hp h.le)) hb.size
theorem Kept.TQ {P:World->Prop} {w w0 w':World} {L B:Nat} (h:Kept P w L B) (hb:Below w0.heap.size w0 w') (hw:w0.heap=w.heap:=by rfl):Kept P w' L B :=
 h.move (fun _ _ hp => (hb.block _ (by rw [hw];exact u_ hp h.le)).trans (by rw [hw])) (by have:=hb.size;rw [hw] at this;exact this)
theorem Kept.iJ {P:World->Prop} {w w':World} {L B C:Nat} (h:Kept P w L B) (hb:Below C w w') (hc:B<=C):Kept P w' L B :=
 h.move (fun _ _ hp => hb.block _ (u_ hp hc)) hb.size
theorem Kept.set {P:World->Prop} {w:World} {L B:Nat} (h:Kept P w L B) (g:Nat) (hg:B<=g\/g < L) (i:Nat) (u:Value):Kept P (w.setCell ⟨g,i,none⟩ u) L B :=
 h.move (fun k hl hk => Below.heap_setCell w ⟨g,i,none⟩ u k (by show k≠g;omega)) (by simp [World.setCell])
theorem Kept.row {P:World->Prop} {w:World} {L B:Nat} (h:Kept P w L B) (g:Nat) (hg:B<=g\/g < L) (cs:Array Value):Kept P (w.setRow g cs) L B :=
 h.move (fun k hl hk => setRow_other _ _ _ _ (by omega)) (by simp)
theorem DI {w w':World} {base:Nat} {e:TypeId} {size n:Nat} {v:Value} {xs:List Value} (h:w.ownsRow base e size v n xs) (hk:∀ k:Nat,base<=k->k < w.heap.size->w'.heap[k]?=w.heap[k]?):w'.ownsRow base e size v n xs:=by
 obtain ⟨h1,h2⟩:=h;refine ⟨h1,?_⟩;rcases h2 with h2 | ⟨g,cap,cur,hv,hb,hh,h3⟩
 . exact .inl h2
 refine .inr ⟨g,cap,cur,hv,hb,?_,h3⟩;rw [hk g hb,hh];rcases QC g w.heap.size with h4 | h4
 . exact h4
 rw [Array.getElem?_eq_none h4] at hh;cases hh
theorem Kept.own {w:World} {base:Nat} {e:TypeId} {size n:Nat} {v:Value} {xs:List Value} (h:w.ownsRow base e size v n xs):Kept (fun w => w.ownsRow base e size v n xs) w base w.heap.size :=
 ⟨h,fun _ hk => DI h hk,b_ _⟩
theorem Kept.rd {P:World->Nat->Prop} {w:World} {B:Nat} (h:P w B) (hB:B<=w.heap.size) (hk:∀ w',(∀ p:Addr,p.block < B->w'.cell? p=w.cell? p)->P w' B):Kept (fun w => P w B) w 0 B :=
 ⟨h,fun w' h2 => hk w' fun p hp => D_ (h2 p.block (VZ _) hp),hB⟩
section
variable {w w' w0:World} {g g' i L B:Nat} {T T':TypeId} {cs cs':Array Value} {P:World->Prop} {v:Value} {o:Obj}
theorem dB (h:Hid (Has w g T cs)) (hb:Below w.heap.size w w'):Hid (Has w' g T cs):=h.out.below hb h.out.here
theorem dK (h:Hid (Kept P w L B)) (hb:Below w.heap.size w w'):Hid (Kept P w' L B):=h.out.on hb
theorem dT (h:Below w0.heap.size w0 w) (hb:Below w.heap.size w w'):Below w0.heap.size w0 w':=h.trans (hb.mono h.size)
theorem aB (h:w'=w.alloc o):Below w.heap.size w w':=by rw [h];exact jY (g_ _ _) (b_ _) _
theorem aN (h:w'=w.alloc (.cells cs T)):Hid (Has w' w.heap.size T cs):=by rw [h];exact Has.made w T cs
theorem aZ {n:Nat} (h:w'=w.alloc o) (hn:w.heap.size=n):w'.heap.size=n+1:=by rw [h,tH,hn]
theorem aM {n:Nat} (h:w'=w.alloc (.cells cs T)) (hn:w.heap.size=n):Hid (Has w' n T cs):=hn ▸ aN h
theorem dF (h:Hid (Has w g T cs)) (hE:w'=w.setCell ⟨g',i,none⟩ v) (hn:g≠g'):Hid (Has w' g T cs):=by rw [hE];exact h.out.far (p:=⟨g',i,none⟩) hn v
theorem dS (h:Hid (Has w g T cs)) (hE:w'=w.setCell ⟨g,i,none⟩ v):Has w' g T (cs.setIfInBounds i v):=by rw [hE];exact h.out.set i v
theorem dR (h:Hid (Has w g T cs)) (hE:w'=w.setRow g' cs') (hn:g≠g'):Hid (Has w' g T cs):=by rw [hE];exact oO h.out hn
theorem dO (h:Hid (Has w g T cs)) (hE:w'=w.setRow g cs'):Hid (Has w' g T cs'):=by rw [hE];exact kF h.out _
theorem tF (h:Below w0.heap.size w0 w) (hE:w'=w.setCell ⟨g',i,none⟩ v) (hn:w0.heap.size<=g'):Below w0.heap.size w0 w':=by rw [hE];exact jS h hn i v
theorem tR (h:Below w0.heap.size w0 w) (hE:w'=w.setRow g' cs') (hn:w0.heap.size<=g'):Below w0.heap.size w0 w':=by rw [hE];exact below_setRow h hn cs'
theorem dG {row:Option Nat} (h:Hid (Has w g T cs)) (hk:∀ k,k < w.heap.size->row≠some k->w'.heap[k]?=w.heap[k]?) (hn:row≠some g):Hid (Has w' g T cs):=(hk g h.out.here hn).trans h.out
theorem d8 {R:Prop} {a0 a1 a2 a3 a4 a5 a6 a7:Value} (h:Hid (Has w g T #[a0,a1,a2,a3,a4,a5,a6,a7])) (r:R):w.cell? ⟨g,0,none⟩=some a0/\w.cell? ⟨g,1,none⟩=some a1/\w.cell? ⟨g,2,none⟩=some a2/\w.cell? ⟨g,3,none⟩=some a3/\w.cell? ⟨g,4,none⟩=some a4/\w.cell? ⟨g,5,none⟩=some a5/\w.cell? ⟨g,6,none⟩=some a6/\w.cell? ⟨g,7,none⟩=some a7/\R :=
 ⟨h.out.cell 0,h.out.cell 1,h.out.cell 2,h.out.cell 3,h.out.cell 4,h.out.cell 5,h.out.cell 6,h.out.cell 7,r⟩
theorem Has.e0 {a0:Value} {r:List Value} (h:Has w g T (a0 :: r).toArray):w.cell? ⟨g,0,none⟩=some a0:=h.cell 0
theorem Has.e1 {a0 a1:Value} {r:List Value} (h:Has w g T (a0 :: a1 :: r).toArray):w.cell? ⟨g,1,none⟩=some a1:=h.cell 1
theorem Has.e2 {a0 a1 a2:Value} {r:List Value} (h:Has w g T (a0 :: a1 :: a2 :: r).toArray):w.cell? ⟨g,2,none⟩=some a2:=h.cell 2
theorem Has.e3 {a0 a1 a2 a3:Value} {r:List Value} (h:Has w g T (a0 :: a1 :: a2 :: a3 :: r).toArray):w.cell? ⟨g,3,none⟩=some a3:=h.cell 3
theorem Has.e4 {a0 a1 a2 a3 a4:Value} {r:List Value} (h:Has w g T (a0 :: a1 :: a2 :: a3 :: a4 :: r).toArray):w.cell? ⟨g,4,none⟩=some a4:=h.cell 4
theorem Has.e5 {a0 a1 a2 a3 a4 a5:Value} {r:List Value} (h:Has w g T (a0 :: a1 :: a2 :: a3 :: a4 :: a5 :: r).toArray):w.cell? ⟨g,5,none⟩=some a5:=h.cell 5
theorem Has.e6 {a0 a1 a2 a3 a4 a5 a6:Value} {r:List Value} (h:Has w g T (a0 :: a1 :: a2 :: a3 :: a4 :: a5 :: a6 :: r).toArray):w.cell? ⟨g,6,none⟩=some a6:=h.cell 6
theorem Has.e7 {a0 a1 a2 a3 a4 a5 a6 a7:Value} {r:List Value} (h:Has w g T (a0 :: a1 :: a2 :: a3 :: a4 :: a5 :: a6 :: a7 :: r).toArray):w.cell? ⟨g,7,none⟩=some a7:=h.cell 7
theorem Has.e8 {a0 a1 a2 a3 a4 a5 a6 a7 a8:Value} {r:List Value} (h:Has w g T (a0 :: a1 :: a2 :: a3 :: a4 :: a5 :: a6 :: a7 :: a8 :: r).toArray):w.cell? ⟨g,8,none⟩=some a8:=h.cell 8
theorem Has.e9 {a0 a1 a2 a3 a4 a5 a6 a7 a8 a9:Value} {r:List Value} (h:Has w g T (a0 :: a1 :: a2 :: a3 :: a4 :: a5 :: a6 :: a7 :: a8 :: a9 :: r).toArray):w.cell? ⟨g,9,none⟩=some a9:=h.cell 9
theorem Has.c2 {a0 a1:Value} (h:Has w g T #[a0,a1]):w.cell? ⟨g,0,none⟩=some a0/\w.cell? ⟨g,1,none⟩=some a1:=⟨h.cell 0,h.cell 1⟩
theorem Has.c3 {a0 a1 a2:Value} (h:Has w g T #[a0,a1,a2]):w.cell? ⟨g,0,none⟩=some a0/\w.cell? ⟨g,1,none⟩=some a1/\w.cell? ⟨g,2,none⟩=some a2:=⟨h.cell 0,h.cell 1,h.cell 2⟩
theorem Has.c11 {a0 a1 a2 a3 a4 a5 a6 a7 a8 a9 a10:Value} (h:Has w g T #[a0,a1,a2,a3,a4,a5,a6,a7,a8,a9,a10]):w.cell? ⟨g,0,none⟩=some a0/\w.cell? ⟨g,1,none⟩=some a1/\w.cell? ⟨g,2,none⟩=some a2/\w.cell? ⟨g,3,none⟩=some a3/\w.cell? ⟨g,4,none⟩=some a4/\w.cell? ⟨g,5,none⟩=some a5/\w.cell? ⟨g,6,none⟩=some a6/\w.cell? ⟨g,7,none⟩=some a7/\w.cell? ⟨g,8,none⟩=some a8/\w.cell? ⟨g,9,none⟩=some a9/\w.cell? ⟨g,10,none⟩=some a10:=⟨h.cell 0,h.cell 1,h.cell 2,h.cell 3,h.cell 4,h.cell 5,h.cell 6,h.cell 7,h.cell 8,h.cell 9,h.cell 10⟩
theorem xR {a0:Value} {r:List Value} (h:Hid (Has w g T (a0 :: r).toArray)) (hE:w.setCell ⟨g,0,none⟩ v=w'):Hid (Has w' g T (v :: r).toArray):=hiQ (by simpa using dS h hE.symm)
theorem yT {a0 a1:Value} {r:List Value} (h:Hid (Has w g T (a0 :: a1 :: r).toArray)) (hE:w.setCell ⟨g,1,none⟩ v=w'):Hid (Has w' g T (a0 :: v :: r).toArray):=hiQ (by simpa using dS h hE.symm)
theorem Yx {a0 a1 a2:Value} {r:List Value} (h:Hid (Has w g T (a0 :: a1 :: a2 :: r).toArray)) (hE:w.setCell ⟨g,2,none⟩ v=w'):Hid (Has w' g T (a0 :: a1 :: v :: r).toArray):=hiQ (by simpa using dS h hE.symm)
theorem Vx {a0 a1 a2 a3:Value} {r:List Value} (h:Hid (Has w g T (a0 :: a1 :: a2 :: a3 :: r).toArray)) (hE:w.setCell ⟨g,3,none⟩ v=w'):Hid (Has w' g T (a0 :: a1 :: a2 :: v :: r).toArray):=hiQ (by simpa using dS h hE.symm)
theorem zB {a0 a1 a2 a3 a4:Value} {r:List Value} (h:Hid (Has w g T (a0 :: a1 :: a2 :: a3 :: a4 :: r).toArray)) (hE:w.setCell ⟨g,4,none⟩ v=w'):Hid (Has w' g T (a0 :: a1 :: a2 :: a3 :: v :: r).toArray):=hiQ (by simpa using dS h hE.symm)
theorem Ea {a0 a1 a2 a3 a4 a5:Value} {r:List Value} (h:Hid (Has w g T (a0 :: a1 :: a2 :: a3 :: a4 :: a5 :: r).toArray)) (hE:w.setCell ⟨g,5,none⟩ v=w'):Hid (Has w' g T (a0 :: a1 :: a2 :: a3 :: a4 :: v :: r).toArray):=hiQ (by simpa using dS h hE.symm)
theorem qM {a0 a1 a2 a3 a4 a5 a6:Value} {r:List Value} (h:Hid (Has w g T (a0 :: a1 :: a2 :: a3 :: a4 :: a5 :: a6 :: r).toArray)) (hE:w.setCell ⟨g,6,none⟩ v=w'):Hid (Has w' g T (a0 :: a1 :: a2 :: a3 :: a4 :: a5 :: v :: r).toArray):=hiQ (by simpa using dS h hE.symm)
theorem Ky {a0 a1 a2 a3 a4 a5 a6 a7:Value} {r:List Value} (h:Hid (Has w g T (a0 :: a1 :: a2 :: a3 :: a4 :: a5 :: a6 :: a7 :: r).toArray)) (hE:w.setCell ⟨g,7,none⟩ v=w'):Hid (Has w' g T (a0 :: a1 :: a2 :: a3 :: a4 :: a5 :: a6 :: v :: r).toArray):=hiQ (by simpa using dS h hE.symm)
theorem JZ {a0 a1 a2 a3 a4 a5 a6 a7 a8:Value} {r:List Value} (h:Hid (Has w g T (a0 :: a1 :: a2 :: a3 :: a4 :: a5 :: a6 :: a7 :: a8 :: r).toArray)) (hE:w.setCell ⟨g,8,none⟩ v=w'):Hid (Has w' g T (a0 :: a1 :: a2 :: a3 :: a4 :: a5 :: a6 :: a7 :: v :: r).toArray):=hiQ (by simpa using dS h hE.symm)
theorem Cc {a0 a1 a2 a3 a4 a5 a6 a7 a8 a9:Value} {r:List Value} (h:Hid (Has w g T (a0 :: a1 :: a2 :: a3 :: a4 :: a5 :: a6 :: a7 :: a8 :: a9 :: r).toArray)) (hE:w.setCell ⟨g,9,none⟩ v=w'):Hid (Has w' g T (a0 :: a1 :: a2 :: a3 :: a4 :: a5 :: a6 :: a7 :: a8 :: v :: r).toArray):=hiQ (by simpa using dS h hE.symm)
theorem amu {a0 a1 a2 a3 a4 a5 a6 a7 a8 a9 a10:Value} {r:List Value} (h:Hid (Has w g T (a0 :: a1 :: a2 :: a3 :: a4 :: a5 :: a6 :: a7 :: a8 :: a9 :: a10 :: r).toArray)) (hE:w.setCell ⟨g,10,none⟩ v=w'):Hid (Has w' g T (a0 :: a1 :: a2 :: a3 :: a4 :: a5 :: a6 :: a7 :: a8 :: a9 :: v :: r).toArray):=hiQ (by simpa using dS h hE.symm)
theorem amv {a0 a1 a2 a3 a4 a5 a6 a7 a8 a9 a10 a11:Value} {r:List Value} (h:Hid (Has w g T (a0 :: a1 :: a2 :: a3 :: a4 :: a5 :: a6 :: a7 :: a8 :: a9 :: a10 :: a11 :: r).toArray)) (hE:w.setCell ⟨g,11,none⟩ v=w'):Hid (Has w' g T (a0 :: a1 :: a2 :: a3 :: a4 :: a5 :: a6 :: a7 :: a8 :: a9 :: a10 :: v :: r).toArray):=hiQ (by simpa using dS h hE.symm)
theorem amw {a0 a1 a2 a3 a4 a5 a6 a7 a8 a9 a10 a11 a12:Value} {r:List Value} (h:Hid (Has w g T (a0 :: a1 :: a2 :: a3 :: a4 :: a5 :: a6 :: a7 :: a8 :: a9 :: a10 :: a11 :: a12 :: r).toArray)) (hE:w.setCell ⟨g,12,none⟩ v=w'):Hid (Has w' g T (a0 :: a1 :: a2 :: a3 :: a4 :: a5 :: a6 :: a7 :: a8 :: a9 :: a10 :: a11 :: v :: r).toArray):=hiQ (by simpa using dS h hE.symm)
theorem uj (h:w.alloc (.cells cs T)=w'):Below w.heap.size w w'/\Hid (Has w' w.heap.size T cs):=⟨aB h.symm,aN h.symm⟩
theorem Ac {w1:World} (h:w.alloc (.cells cs T)=w1) (h2:w1.alloc (.cells cs' T')=w'):Below w.heap.size w w'/\Hid (Has w' w.heap.size T cs)/\Hid (Has w' (w.heap.size+1) T' cs'):=⟨dT (aB h.symm) (aB h2.symm),dB (aN h.symm) (aB h2.symm),aM h2.symm (aZ h.symm rfl)⟩
theorem tf (h:Below w0.heap.size w0 w) (hE:w.setCell ⟨g',i,none⟩ v=w') (hn:w0.heap.size<=g':=by omega):Below w0.heap.size w0 w':=tF h hE.symm hn
theorem tr (h:Below w0.heap.size w0 w) (hE:w.setRow g' cs'=w') (hn:w0.heap.size<=g':=by omega):Below w0.heap.size w0 w':=tR h hE.symm hn
theorem dV (h:Hid (Has w g T cs)) (hE:w.setRow g cs'=w'):Hid (Has w' g T cs'):=dO h hE.symm
theorem aO {F:World->Prop} {w:World} {cs0:Array Value} {T0:TypeId} (h:∀ W,Below w.heap.size w W->Hid (Has W (w.heap.size) T0 cs0)->F W):F (w.alloc (.cells cs0 T0)) :=
 h _ (jY (g_ _ _) (b_ _) _) (hiQ ((aM rfl rfl).out))
theorem jg {F:World->Prop} {w:World} {cs0 cs1:Array Value} {T0 T1:TypeId} (h:∀ W,Below w.heap.size w W->Hid (Has W (w.heap.size) T0 cs0)->Hid (Has W (w.heap.size+1) T1 cs1)->F W):F ((w.alloc (.cells cs0 T0)).alloc (.cells cs1 T1)) :=
 h _ (jY (jY (g_ _ _) (b_ _) _) (b_ _) _) (hiQ ((((aM rfl rfl).out).alloc _))) (hiQ ((aM rfl (aZ rfl rfl)).out))
theorem Fj {F:World->Prop} {w:World} {cs0 cs1 cs2:Array Value} {T0 T1 T2:TypeId} (h:∀ W,Below w.heap.size w W->Hid (Has W (w.heap.size) T0 cs0)->Hid (Has W (w.heap.size+1) T1 cs1)->Hid (Has W (w.heap.size+1+1) T2 cs2)->F W):F (((w.alloc (.cells cs0 T0)).alloc (.cells cs1 T1)).alloc (.cells cs2 T2)) :=
 h _ (jY (jY (jY (g_ _ _) (b_ _) _) (b_ _) _) (b_ _) _) (hiQ (((((aM rfl rfl).out).alloc _).alloc _))) (hiQ ((((aM rfl (aZ rfl rfl)).out).alloc _))) (hiQ ((aM rfl (aZ rfl (aZ rfl rfl))).out))
theorem am4 {F:World->Prop} {w:World} {cs0 cs1 cs2 cs3:Array Value} {T0 T1 T2 T3:TypeId} (h:∀ W,Below w.heap.size w W->Hid (Has W (w.heap.size) T0 cs0)->Hid (Has W (w.heap.size+1) T1 cs1)->Hid (Has W (w.heap.size+1+1) T2 cs2)->Hid (Has W (w.heap.size+1+1+1) T3 cs3)->F W):F ((((w.alloc (.cells cs0 T0)).alloc (.cells cs1 T1)).alloc (.cells cs2 T2)).alloc (.cells cs3 T3)) :=
 h _ (jY (jY (jY (jY (g_ _ _) (b_ _) _) (b_ _) _) (b_ _) _) (b_ _) _) (hiQ ((((((aM rfl rfl).out).alloc _).alloc _).alloc _))) (hiQ (((((aM rfl (aZ rfl rfl)).out).alloc _).alloc _))) (hiQ ((((aM rfl (aZ rfl (aZ rfl rfl))).out).alloc _))) (hiQ ((aM rfl (aZ rfl (aZ rfl (aZ rfl rfl)))).out))
class iT (w w':World) (A:Prop) (B:outParam Prop):Prop where
 out:Below w.heap.size w w'->A->B
instance apI:iT w w' (Has w g T cs) (Has w' g T cs):=⟨fun hb h => (dB (hiQ h) hb).out⟩
instance apJ:iT w w' (Kept P w L B) (Kept P w' L B):=⟨fun hb h => (dK (hiQ h) hb).out⟩
structure La (w w':World) (g:Nat):Prop where
 blk:∀ k,k≠g->w'.heap[k]?=w.heap[k]?
 sz:w.heap.size<=w'.heap.size
theorem eF (h:w.setCell ⟨g,i,none⟩ v=w'):La w w' g:=by subst h;exact ⟨fun k hk => Below.heap_setCell w ⟨g,i,none⟩ v k hk,by simp [World.setCell]⟩
theorem eR (h:w.setRow g cs=w'):La w w' g:=by subst h;exact ⟨fun k hk => setRow_other _ _ _ _ hk,by simp⟩
class jI (w w':World) (g':Nat) (A:Prop) (B C:outParam Prop):Prop where
 out:La w w' g'->C->A->B
instance apK:jI w w' g' (Has w g T cs) (Has w' g T cs) (g≠g'):=⟨fun e hn h => (e.blk g hn).trans h⟩
instance apL:jI w w' g' (Kept P w L B) (Kept P w' L B) (B<=g'\/g' < L):=⟨fun e hn h => ⟨h.st w' (fun k h1 h2 => e.blk k (by omega)),fun w2 hk => h.st w2 (fun k h1 h2 => (hk k h1 h2).trans (e.blk k (by omega))),Jh h.le e.sz⟩⟩
theorem b1 {A1 B1:Prop} [iT w w' A1 B1] (h1:Hid A1) (hb:Below w.heap.size w w'):Hid B1:=hiQ (iT.out hb h1.out)
theorem b2 {A1 B1 A2 B2:Prop} [iT w w' A1 B1] [iT w w' A2 B2] (h1:Hid A1) (h2:Hid A2) (hb:Below w.heap.size w w'):Hid B1/\Hid B2:=⟨hiQ (iT.out hb h1.out),hiQ (iT.out hb h2.out)⟩
theorem b3 {A1 B1 A2 B2 A3 B3:Prop} [iT w w' A1 B1] [iT w w' A2 B2] [iT w w' A3 B3] (h1:Hid A1) (h2:Hid A2) (h3:Hid A3) (hb:Below w.heap.size w w'):Hid B1/\Hid B2/\Hid B3:=⟨hiQ (iT.out hb h1.out),hiQ (iT.out hb h2.out),hiQ (iT.out hb h3.out)⟩
theorem b4 {A1 B1 A2 B2 A3 B3 A4 B4:Prop} [iT w w' A1 B1] [iT w w' A2 B2] [iT w w' A3 B3] [iT w w' A4 B4] (h1:Hid A1) (h2:Hid A2) (h3:Hid A3) (h4:Hid A4) (hb:Below w.heap.size w w'):Hid B1/\Hid B2/\Hid B3/\Hid B4:=⟨hiQ (iT.out hb h1.out),hiQ (iT.out hb h2.out),hiQ (iT.out hb h3.out),hiQ (iT.out hb h4.out)⟩
theorem b5 {A1 B1 A2 B2 A3 B3 A4 B4 A5 B5:Prop} [iT w w' A1 B1] [iT w w' A2 B2] [iT w w' A3 B3] [iT w w' A4 B4] [iT w w' A5 B5] (h1:Hid A1) (h2:Hid A2) (h3:Hid A3) (h4:Hid A4) (h5:Hid A5) (hb:Below w.heap.size w w'):Hid B1/\Hid B2/\Hid B3/\Hid B4/\Hid B5:=⟨hiQ (iT.out hb h1.out),hiQ (iT.out hb h2.out),hiQ (iT.out hb h3.out),hiQ (iT.out hb h4.out),hiQ (iT.out hb h5.out)⟩
theorem b6 {A1 B1 A2 B2 A3 B3 A4 B4 A5 B5 A6 B6:Prop} [iT w w' A1 B1] [iT w w' A2 B2] [iT w w' A3 B3] [iT w w' A4 B4] [iT w w' A5 B5] [iT w w' A6 B6] (h1:Hid A1) (h2:Hid A2) (h3:Hid A3) (h4:Hid A4) (h5:Hid A5) (h6:Hid A6) (hb:Below w.heap.size w w'):Hid B1/\Hid B2/\Hid B3/\Hid B4/\Hid B5/\Hid B6:=⟨hiQ (iT.out hb h1.out),hiQ (iT.out hb h2.out),hiQ (iT.out hb h3.out),hiQ (iT.out hb h4.out),hiQ (iT.out hb h5.out),hiQ (iT.out hb h6.out)⟩
theorem b7 {A1 B1 A2 B2 A3 B3 A4 B4 A5 B5 A6 B6 A7 B7:Prop} [iT w w' A1 B1] [iT w w' A2 B2] [iT w w' A3 B3] [iT w w' A4 B4] [iT w w' A5 B5] [iT w w' A6 B6] [iT w w' A7 B7] (h1:Hid A1) (h2:Hid A2) (h3:Hid A3) (h4:Hid A4) (h5:Hid A5) (h6:Hid A6) (h7:Hid A7) (hb:Below w.heap.size w w'):Hid B1/\Hid B2/\Hid B3/\Hid B4/\Hid B5/\Hid B6/\Hid B7:=⟨hiQ (iT.out hb h1.out),hiQ (iT.out hb h2.out),hiQ (iT.out hb h3.out),hiQ (iT.out hb h4.out),hiQ (iT.out hb h5.out),hiQ (iT.out hb h6.out),hiQ (iT.out hb h7.out)⟩
theorem b8 {A1 B1 A2 B2 A3 B3 A4 B4 A5 B5 A6 B6 A7 B7 A8 B8:Prop} [iT w w' A1 B1] [iT w w' A2 B2] [iT w w' A3 B3] [iT w w' A4 B4] [iT w w' A5 B5] [iT w w' A6 B6] [iT w w' A7 B7] [iT w w' A8 B8] (h1:Hid A1) (h2:Hid A2) (h3:Hid A3) (h4:Hid A4) (h5:Hid A5) (h6:Hid A6) (h7:Hid A7) (h8:Hid A8) (hb:Below w.heap.size w w'):Hid B1/\Hid B2/\Hid B3/\Hid B4/\Hid B5/\Hid B6/\Hid B7/\Hid B8:=⟨hiQ (iT.out hb h1.out),hiQ (iT.out hb h2.out),hiQ (iT.out hb h3.out),hiQ (iT.out hb h4.out),hiQ (iT.out hb h5.out),hiQ (iT.out hb h6.out),hiQ (iT.out hb h7.out),hiQ (iT.out hb h8.out)⟩
theorem b9 {A1 B1 A2 B2 A3 B3 A4 B4 A5 B5 A6 B6 A7 B7 A8 B8 A9 B9:Prop} [iT w w' A1 B1] [iT w w' A2 B2] [iT w w' A3 B3] [iT w w' A4 B4] [iT w w' A5 B5] [iT w w' A6 B6] [iT w w' A7 B7] [iT w w' A8 B8] [iT w w' A9 B9] (h1:Hid A1) (h2:Hid A2) (h3:Hid A3) (h4:Hid A4) (h5:Hid A5) (h6:Hid A6) (h7:Hid A7) (h8:Hid A8) (h9:Hid A9) (hb:Below w.heap.size w w'):Hid B1/\Hid B2/\Hid B3/\Hid B4/\Hid B5/\Hid B6/\Hid B7/\Hid B8/\Hid B9:=⟨hiQ (iT.out hb h1.out),hiQ (iT.out hb h2.out),hiQ (iT.out hb h3.out),hiQ (iT.out hb h4.out),hiQ (iT.out hb h5.out),hiQ (iT.out hb h6.out),hiQ (iT.out hb h7.out),hiQ (iT.out hb h8.out),hiQ (iT.out hb h9.out)⟩
theorem f1 {A1 B1 C1:Prop} [jI w w' g A1 B1 C1] (h1:Hid A1) (e:La w w' g) (c1:C1:=by omega):Hid B1:=hiQ (jI.out e c1 h1.out)
theorem f2 {A1 B1 C1 A2 B2 C2:Prop} [jI w w' g A1 B1 C1] [jI w w' g A2 B2 C2] (h1:Hid A1) (h2:Hid A2) (e:La w w' g) (c1:C1:=by omega) (c2:C2:=by omega):Hid B1/\Hid B2:=⟨hiQ (jI.out e c1 h1.out),hiQ (jI.out e c2 h2.out)⟩
theorem f3 {A1 B1 C1 A2 B2 C2 A3 B3 C3:Prop} [jI w w' g A1 B1 C1] [jI w w' g A2 B2 C2] [jI w w' g A3 B3 C3] (h1:Hid A1) (h2:Hid A2) (h3:Hid A3) (e:La w w' g) (c1:C1:=by omega) (c2:C2:=by omega) (c3:C3:=by omega):Hid B1/\Hid B2/\Hid B3:=⟨hiQ (jI.out e c1 h1.out),hiQ (jI.out e c2 h2.out),hiQ (jI.out e c3 h3.out)⟩
theorem f4 {A1 B1 C1 A2 B2 C2 A3 B3 C3 A4 B4 C4:Prop} [jI w w' g A1 B1 C1] [jI w w' g A2 B2 C2] [jI w w' g A3 B3 C3] [jI w w' g A4 B4 C4] (h1:Hid A1) (h2:Hid A2) (h3:Hid A3) (h4:Hid A4) (e:La w w' g) (c1:C1:=by omega) (c2:C2:=by omega) (c3:C3:=by omega) (c4:C4:=by omega):Hid B1/\Hid B2/\Hid B3/\Hid B4:=⟨hiQ (jI.out e c1 h1.out),hiQ (jI.out e c2 h2.out),hiQ (jI.out e c3 h3.out),hiQ (jI.out e c4 h4.out)⟩
theorem f5 {A1 B1 C1 A2 B2 C2 A3 B3 C3 A4 B4 C4 A5 B5 C5:Prop} [jI w w' g A1 B1 C1] [jI w w' g A2 B2 C2] [jI w w' g A3 B3 C3] [jI w w' g A4 B4 C4] [jI w w' g A5 B5 C5] (h1:Hid A1) (h2:Hid A2) (h3:Hid A3) (h4:Hid A4) (h5:Hid A5) (e:La w w' g) (c1:C1:=by omega) (c2:C2:=by omega) (c3:C3:=by omega) (c4:C4:=by omega) (c5:C5:=by omega):Hid B1/\Hid B2/\Hid B3/\Hid B4/\Hid B5:=⟨hiQ (jI.out e c1 h1.out),hiQ (jI.out e c2 h2.out),hiQ (jI.out e c3 h3.out),hiQ (jI.out e c4 h4.out),hiQ (jI.out e c5 h5.out)⟩
theorem f6 {A1 B1 C1 A2 B2 C2 A3 B3 C3 A4 B4 C4 A5 B5 C5 A6 B6 C6:Prop} [jI w w' g A1 B1 C1] [jI w w' g A2 B2 C2] [jI w w' g A3 B3 C3] [jI w w' g A4 B4 C4] [jI w w' g A5 B5 C5] [jI w w' g A6 B6 C6] (h1:Hid A1) (h2:Hid A2) (h3:Hid A3) (h4:Hid A4) (h5:Hid A5) (h6:Hid A6) (e:La w w' g) (c1:C1:=by omega) (c2:C2:=by omega) (c3:C3:=by omega) (c4:C4:=by omega) (c5:C5:=by omega) (c6:C6:=by omega):Hid B1/\Hid B2/\Hid B3/\Hid B4/\Hid B5/\Hid B6:=⟨hiQ (jI.out e c1 h1.out),hiQ (jI.out e c2 h2.out),hiQ (jI.out e c3 h3.out),hiQ (jI.out e c4 h4.out),hiQ (jI.out e c5 h5.out),hiQ (jI.out e c6 h6.out)⟩
theorem f7 {A1 B1 C1 A2 B2 C2 A3 B3 C3 A4 B4 C4 A5 B5 C5 A6 B6 C6 A7 B7 C7:Prop} [jI w w' g A1 B1 C1] [jI w w' g A2 B2 C2] [jI w w' g A3 B3 C3] [jI w w' g A4 B4 C4] [jI w w' g A5 B5 C5] [jI w w' g A6 B6 C6] [jI w w' g A7 B7 C7] (h1:Hid A1) (h2:Hid A2) (h3:Hid A3) (h4:Hid A4) (h5:Hid A5) (h6:Hid A6) (h7:Hid A7) (e:La w w' g) (c1:C1:=by omega) (c2:C2:=by omega) (c3:C3:=by omega) (c4:C4:=by omega) (c5:C5:=by omega) (c6:C6:=by omega) (c7:C7:=by omega):Hid B1/\Hid B2/\Hid B3/\Hid B4/\Hid B5/\Hid B6/\Hid B7:=⟨hiQ (jI.out e c1 h1.out),hiQ (jI.out e c2 h2.out),hiQ (jI.out e c3 h3.out),hiQ (jI.out e c4 h4.out),hiQ (jI.out e c5 h5.out),hiQ (jI.out e c6 h6.out),hiQ (jI.out e c7 h7.out)⟩
theorem f8 {A1 B1 C1 A2 B2 C2 A3 B3 C3 A4 B4 C4 A5 B5 C5 A6 B6 C6 A7 B7 C7 A8 B8 C8:Prop} [jI w w' g A1 B1 C1] [jI w w' g A2 B2 C2] [jI w w' g A3 B3 C3] [jI w w' g A4 B4 C4] [jI w w' g A5 B5 C5] [jI w w' g A6 B6 C6] [jI w w' g A7 B7 C7] [jI w w' g A8 B8 C8] (h1:Hid A1) (h2:Hid A2) (h3:Hid A3) (h4:Hid A4) (h5:Hid A5) (h6:Hid A6) (h7:Hid A7) (h8:Hid A8) (e:La w w' g) (c1:C1:=by omega) (c2:C2:=by omega) (c3:C3:=by omega) (c4:C4:=by omega) (c5:C5:=by omega) (c6:C6:=by omega) (c7:C7:=by omega) (c8:C8:=by omega):Hid B1/\Hid B2/\Hid B3/\Hid B4/\Hid B5/\Hid B6/\Hid B7/\Hid B8:=⟨hiQ (jI.out e c1 h1.out),hiQ (jI.out e c2 h2.out),hiQ (jI.out e c3 h3.out),hiQ (jI.out e c4 h4.out),hiQ (jI.out e c5 h5.out),hiQ (jI.out e c6 h6.out),hiQ (jI.out e c7 h7.out),hiQ (jI.out e c8 h8.out)⟩
theorem sR {ops:Array Oper} {rest:List Oper} {op:Oper} {a:Act} {Q:Exit->Act->World->Prop} {ty:TypeId} {x y:Operand} (hg:Has w g T cs) (h:wpList Tryz.prog ops Q rest (a.put op.dst undef) (w.setRow g cs')) (hgd:op.guard=none:=by rfl) (ho:op.op = .store ty x y:=by rfl) (hx:a.eval x = .pointer (some ⟨g,0,none⟩):=by rfl) (hy:a.eval y = .agg cs':=by rfl)
  (hi:(Tryz.prog.info? ty).map (·.size)=some cs'.size:=by kernel_rfl) (hold:cs.size=cs'.size:=by rfl) (h1:cs'.all (·.oneCell')=true:=by first | assumption | simp [Value.oneCell']):wpList Tryz.prog ops Q (op :: rest) a w:=yH hgd ty x y ho g cs' hx hy T cs hg hi hold h1 h
theorem SL (h:Hid (Has w g T cs)) (i:Nat):∀ ob,(w.alloc ob).frozen? ⟨g,i,none⟩=false:=fun ob => (h.out.alloc ob).free i
end
theorem kM:(∀ (a:Act) (v:Value),a.put none v=a)/\(∀ (ts:Array Value) (ds:List _) (i:Nat) (v:Value),Act.put ⟨ts,ds⟩ (some i) v=⟨ts.setIfInBounds i v,ds⟩) /\
  (∀ (l:List Value) (i:Nat) (v:Value),l.toArray.setIfInBounds i v=(l.set i v).toArray)/\(∀ (x:Value) (l:List Value) (v:Value),(x :: l).set 0 v=v :: l)/\(∀ (x:Value) (l:List Value) (i:Nat) (v:Value),(x :: l).set (i+1) v=x :: l.set i v) :=
 ⟨fun _ _ => rfl,fun _ _ _ _ => rfl,fun _ _ _ => by simp,fun _ _ _ => rfl,fun _ _ _ _ => rfl⟩
theorem Pv {w:World} {b o:Nat} {u:Value} (h:w.cell? ⟨b,o,none⟩=some u):∀ ob,(w.alloc ob).cell? ⟨b,o,none⟩=some u:=fun ob =>
 (((g_ w.heap.size w).alloc (b_ _) ob).cell (p:=⟨b,o,none⟩) (World.block_lt_of_cell? _ _ h)).trans h
theorem eY {P:Program} {ops:Array Oper} {op:Oper} {a:Act} {w:World} {K:Act->World->Prop} {Q:Exit->Act->World->Prop} {E:Prop} (hgd:op.guard=none) (ty:TypeId) (x y:Operand) (ho:op.op = .store ty x y)
  (g:Nat) (cells:Array Value) (hx:a.eval x = .pointer (some ⟨g,0,none⟩)) (hy:a.eval y = .agg cells)
  (t:TypeId) (old:Array Value) (hg:w.heap[g]?=some (.cells old t (0,0))) (hi:(P.info? ty).map (·.size)=some cells.size) (hold:old.size=cells.size) (h1:cells.all (·.oneCell')=true)
  (h:K (a.put op.dst undef) (w.setRow g cells)):if Region.wanted op (yielded ops a.tmps)=true then Oper.wp P op a w K Q else E:=by
 rw [o_ (by simp [Region.wanted,hgd])];exact wp_store_row ty x y ho g cells hx hy t old hg hi hold h1 h
mutual
def wt:Val->Nat
 | .mk _ _ _ _ _ ks is rs => GL ks+GL is+rs.length+1
def GL:List Val->Nat
 | [] => 0
 | x :: r => wt x+GL r
end
theorem af8 (x:Val):wt x=GL x.keys+GL x.items+x.rest.length+1:=by cases x;rw [wt];rfl
theorem ab1 (x:Val):1<=wt x:=by rw [af8];omega
theorem YJ (l:List Val) (x:Val) (h:x ∈ l):wt x<=GL l:=by
 induction l with
 | nil => simp at h
 | cons y r ih =>
  rw [GL];rcases N_.1 h with rfl | h
  . omega
  have:=ih h;omega
theorem YK (l:List Val):l.length<=GL l:=by
 induction l with
 | nil => simp
 | cons y r ih => rw [GL,z_];have:=ab1 y;omega
mutual
theorem aeg:∀ (x:Val) (n:Int),0<=D6 x n->(wt x:Int)<=n - D6 x n
 | .mk _ _ _ s _ ks is rs,n => by
  rw [D6,wt];intro h;have h1:=VO rs (n - (10+s.length+rs.length));have h2:=(yL ks (EK rs (n - (10+s.length+rs.length)))).1;have h3:=(yL is (yV ks (EK rs (n - (10+s.length+rs.length))))).1;have h4:=Px is _ h;have h5:=Px ks (EK rs (n - (10+s.length+rs.length))) (by omega);omega
theorem Px:∀ (l:List Val) (n:Int),0<=yV l n->(GL l:Int)<=n - yV l n
 | [],n => by rw [yV,GL];omega
 | x :: r,n => by
  rw [yV,GL];split
  . omega
  intro h;have h1:=Px r _ h;have h2:=(yL r (D6 x n)).1;have h3:=aeg x n (by omega);omega
end
def IB (w:World) (S:Nat->Prop) (size:Nat) (v:Value) (n:Nat) (xs:List Value):Prop :=
 xs.length=n*size/\∃ A c,v = .slice A n c/\n<=c/\(n=0\/∃ b o,A=some ⟨b,o,none⟩/\S b/\∀ j u,xs[j]?=some u->w.cell? ⟨b,o+j,none⟩=some u)
def Bh (w:World) (S:Nat->Prop) (size:Nat) (v:Value) (n:Nat) (c:Nat->List Value):Prop :=
 ∃ A cap,v = .slice A n cap/\n<=cap/\(n=0\/∃ b o,A=some ⟨b,o,none⟩/\S b/\∀ i,i < n->∀ j u,(c i)[j]?=some u->w.cell? ⟨b,o+i*size+j,none⟩=some u)
section
variable {w w':World} {S S':Nat->Prop} {B size n:Nat} {v:Value} {xs:List Value} {c:Nat->List Value}
theorem IB.keep (h:IB w S size v n xs) (hk:∀ p:Addr,S p.block->w'.cell? p=w.cell? p) (hS:∀ b,S b->S' b):IB w' S' size v n xs:=by
 obtain ⟨hl,A,c,hv,hc,h2⟩:=h;refine ⟨hl,A,c,hv,hc,?_⟩;rcases h2 with h2 | ⟨b,o,hA,hb,hcell⟩
 . exact .inl h2
 exact .inr ⟨b,o,hA,hS b hb,fun j u hu => (hk ⟨b,o+j,none⟩ hb).trans (hcell j u hu)⟩
theorem Bh.keep (h:Bh w S size v n c) (hk:∀ p:Addr,S p.block->w'.cell? p=w.cell? p) (hS:∀ b,S b->S' b):Bh w' S' size v n c:=by
 obtain ⟨A,cap,hv,hc,h2⟩:=h;refine ⟨A,cap,hv,hc,?_⟩;rcases h2 with h2 | ⟨b,o,hA,hb,hcell⟩
 . exact .inl h2
 exact .inr ⟨b,o,hA,hS b hb,fun i hi j u hu => (hk ⟨b,o+i*size+j,none⟩ hb).trans (hcell i hi j u hu)⟩
theorem zGw {p:Prop} (h:p:=by
 rcases h2 with h2 | ⟨b,o,hA,hb,hcell⟩
 . exact .inl h2
 exact .inr ⟨b,o,hA,hS b hb,hcell⟩):p:=h
theorem IB.rd (h:IB w S size v n xs) (hS:∀ b,S b->b < B):Rd w B size v n xs:=by
 obtain ⟨hl,A,c,hv,hc,h2⟩:=h;refine ⟨hl,A,c,hv,hc,?_⟩;exact zGw
theorem Bh.row (h:Bh w S size v n c) (hS:∀ b,S b->b < B):Row w B size v n c:=by
 obtain ⟨A,cap,hv,hc,h2⟩:=h;refine ⟨A,cap,hv,hc,?_⟩;exact zGw
end
inductive lD (w:World) (S:Nat->Prop):Val->List Value->Prop
 | mk (k:Int) (b:Bool) (n:Int) (s:List UInt8) (id:Int) (ks is:List Val) (rs:List Raw) (vk vi vr:Value) (ck ci:Nat->List Value)
   (hn:I64 k/\I64 n/\I64 id) (hs:s.length<=140737488351232) (hl:ks.length<=1172812402926/\is.length<=1172812402926/\rs.length<=5864062014634) (gy:∀ r ∈ rs,yR r)
   (hk:Bh w S 8 vk ks.length ck) (hkr:∀ (i:Nat) (h:i < ks.length),lD w S ks[i] (ck i))
   (hi:Bh w S 8 vi is.length ci) (hir:∀ (i:Nat) (h:i < is.length),lD w S is[i] (ci i))
   (hr:IB w S 2 vr rs.length (jO rs)):lD w S (.mk k b n s id ks is rs) [.int .i64 k,.bool b,.int .i64 n,.string ⟨s.toArray⟩,.int .i64 id,vk,vi,vr]
theorem lD.keep {w w':World} {S S':Nat->Prop} {v:Val} {cs:List Value} (h:lD w S v cs) (hk:∀ p:Addr,S p.block->w'.cell? p=w.cell? p) (hS:∀ b,S b->S' b):lD w' S' v cs:=by
 induction h with
 | mk k b n s id ks is rs vk vi vr ck ci hn hs hl gy h1 _ h2 _ h3 ih1 ih2 =>
  exact .mk k b n s id ks is rs vk vi vr ck ci hn hs hl gy (h1.keep hk hS) ih1 (h2.keep hk hS) ih2 (h3.keep hk hS)
theorem lD.rd {w:World} {S:Nat->Prop} {B:Nat} {v:Val} {cs:List Value} (h:lD w S v cs) (hS:∀ b,S b->b < B):wJ w B v cs:=by
 induction h with
 | mk k b n s id ks is rs vk vi vr ck ci hn hs hl gy h1 _ h2 _ h3 ih1 ih2 =>
  exact .mk k b n s id ks is rs vk vi vr ck ci hn hs hl gy (h1.row hS) ih1 (h2.row hS) ih2 (h3.rd hS)
theorem wJ.toP {w:World} {B:Nat} {v:Val} {cs:List Value} (h:wJ w B v cs):lD w (· < B) v cs:=by
 induction h with
 | mk k b n s id ks is rs vk vi vr ck ci hn hs hl gy h1 _ h2 _ h3 ih1 ih2 =>
  exact .mk k b n s id ks is rs vk vi vr ck ci hn hs hl gy h1 ih1 h2 ih2 h3
def lM (w:World) (S:Nat->Prop) (v:Value) (xs:List Val):Prop := ∃ c:Nat->List Value,Bh w S 8 v xs.length c/\∀ (i:Nat) (h:i < xs.length),lD w S xs[i] (c i)
theorem lM.keep {w w':World} {S S':Nat->Prop} {v:Value} {xs:List Val} (h:lM w S v xs) (hk:∀ p:Addr,S p.block->w'.cell? p=w.cell? p) (hS:∀ b,S b->S' b):lM w' S' v xs:=by
 obtain ⟨c,h1,h2⟩:=h;exact ⟨c,h1.keep hk hS,fun i hi => (h2 i hi).keep hk hS⟩
structure jq (w:World) (S:Nat->Prop) (x:Val) (vk vi vr:Value):Prop where
 ints:I64 x.kind/\I64 x.num/\I64 x.id
 AL:x.str.length<=140737488351232
 FH:x.keys.length<=1172812402926/\x.items.length<=1172812402926/\x.rest.length<=5864062014634
 Ie:∀ r ∈ x.rest,yR r
 keys:lM w S vk x.keys
 items:lM w S vi x.items
 rest:IB w S 2 vr x.rest.length (jO x.rest)
theorem jq.lens {w:World} {S:Nat->Prop} {x:Val} {vk vi vr:Value} (h:jq w S x vk vi vr):x.keys.length<=140737488351232/\x.items.length<=140737488351232/\x.rest.length<=140737488351232:=by have:=h.FH;omega
theorem jq.rd {w:World} {S:Nat->Prop} {x:Val} {vk vi vr:Value} (h:jq w S x vk vi vr):lD w S x (oD x vk vi vr):=by
 exact zGf
theorem jq.at_ {w:World} {S:Nat->Prop} {B:Nat} {x:Val} {vk vi vr:Value} (h:jq w S x vk vi vr) (hS:∀ b,S b->b < B):ValAt w B x vk vi vr:=by
 obtain ⟨hn,hs,hl,gy,⟨ck,h1,h2⟩,⟨ci,h3,h4⟩,h5⟩:=h;exact ⟨hn,hs,hl,gy,⟨ck,h1.row hS,fun i hi => (h2 i hi).rd hS⟩,⟨ci,h3.row hS,fun i hi => (h4 i hi).rd hS⟩,h5.rd hS⟩
theorem jq.keep {w w':World} {S S':Nat->Prop} {x:Val} {vk vi vr:Value} (h:jq w S x vk vi vr) (hk:∀ p:Addr,S p.block->w'.cell? p=w.cell? p) (hS:∀ b,S b->S' b):jq w' S' x vk vi vr :=
 ⟨h.ints,h.AL,h.FH,h.Ie,h.keys.keep hk hS,h.items.keep hk hS,h.rest.keep hk hS⟩
def nN (c:Nat->List Value):Nat->List Value
 | 0 => []
 | n+1 => nN c n ++ c n
theorem arY (c:Nat->List Value) (size n:Nat) (h:∀ i,i < n->(c i).length=size):(nN c n).length=n*size:=by
 induction n with
 | zero => simp [nN]
 | succ n ih => rw [nN,h_,ih (fun i hi => h i (by omega)),h n (by omega),Nat.add_mul];omega
theorem zN (c:Nat->List Value) (size n:Nat) (h:∀ i,i < n->(c i).length=size) (i j:Nat) (hi:i < n) (hj:j < size):(nN c n)[i*size+j]?=(c i)[j]?:=by
 induction n with
 | zero => omega
 | succ n ih =>
  have hl:=arY c size n (fun i hi => h i (by omega));rw [nN];by_cases hin:i < n
  .
   have:i*size+j < n*size:=by
    have h1:(i+1)*size<=n*size:=P_ _ hin;rw [Nat.add_mul] at h1;omega
   rw [List.getElem?_append_left (by omega)];exact ih (fun i hi => h i (by omega)) hin
  obtain rfl:i=n:=by omega
  rw [List.getElem?_append_right (by omega),hl]
  congr 1
  omega
theorem Ub (c:Nat->List Value) (size n:Nat) (hs:0 < size) (h:∀ i,i < n->(c i).length=size) (q:Nat) (u:Value) (hq:(nN c n)[q]?=some u):q / size < n/\(c (q / size))[q % size]?=some u:=by
 have hl:=arY c size n h;have hlt:q < n*size:=by rw [<- hl];exact (C_.1 hq).1
 have h1:q / size < n:=Nat.div_lt_of_lt_mul (by rwa [QH] at hlt);refine ⟨h1,?_⟩;have h2:=zN c size n h (q / size) (q % size) h1 (Qo _ hs);rw [show q / size*size+q % size=q by rw [QH];exact Nat.div_add_mod q size] at h2;rw [<- h2];exact hq
theorem Row.flat {w:World} {B size n cap:Nat} {A:Option Addr} {c:Nat->List Value} (h:Row w B size (.slice A n cap) n c) (hs:0 < size) (hc:∀ i,i < n->(c i).length=size) (a:Addr) (hA:A=some a) :
  ∀ j u,(nN c n)[j]?=some u->w.cell? (a.add j)=some u:=by
 intro q u hq;obtain ⟨h1,h2⟩:=Ub c size n hs hc q u hq;obtain ⟨A',c',hv,_,h3⟩:=h;injection hv with h4 h5 h6;subst h4;rcases h3 with h3 | ⟨b,o,hb,_,hcell⟩
 . rw [h3] at h1;exact absurd h1 (Nat.not_lt_zero _)
 rw [hb] at hA;injection hA with hA;subst hA;have e:(⟨b,o,none⟩ : Addr).add q=⟨b,o+q / size*size+q % size,none⟩:=by
  unfold Addr.add;split <;> simp_all
  rw [Us,QH,Nat.div_add_mod]
 rw [e];exact hcell _ h1 _ _ h2
theorem Bh.uX {w:World} {base n size:Nat} {e:TypeId} {v:Value} {c:Nat->List Value} (h:w.ownsRow base e size v n (nN c n)) (hc:∀ i,i < n->(c i).length=size):Bh w (fun b => v.ownBlock=some b) size v n c:=by
 have h0:=h;obtain ⟨hl,h2⟩:=h;rcases h2 with ⟨rfl,rfl⟩ | ⟨g,cap,cur,rfl,hb,hh,hn,hm,hsz,ht⟩
 . exact ⟨none,0,rfl,b_ _,.inl rfl⟩
 refine ⟨_,cap,rfl,hn,.inr ⟨g,0,rfl,rfl,fun i hi j u hu => ?_⟩⟩;have hj:j < size:=by rw [<- hc i hi];exact (C_.1 hu).1
 have:=h0.cells (g:=g) rfl (i*size+j) u (by rw [zN c size n hc i j hi hj];exact hu);have e:(⟨g,0,none⟩ : Addr).add (i*size+j)=⟨g,0+i*size+j,none⟩:=by unfold Addr.add;split <;> simp_all
 rwa [e] at this
