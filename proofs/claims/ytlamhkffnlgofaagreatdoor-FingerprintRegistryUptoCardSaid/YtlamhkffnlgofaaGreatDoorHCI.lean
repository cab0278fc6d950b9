/- Ints, Same of the reference. What Find and its reference compute, and Has of the reference. Condition: what Of computes of each root. Plain: a registry that grows by Add never holds two roots that are wire-equivalent; Has of the reference. No condition. -/
import Derived.Test.YtlamhkffnlgofaaGreatDoorHAQ
import Derived.Test.YtlamhkffnlgofaaGreatDoorAdd9
set_option maxHeartbeats 800000
set_option maxRecDepth 100000
namespace Go.Proofs.YtlamhkffnlgofaaGreatDoor
open Go.ChangeShapes Go.WideShapes Go.ChangeAt Go.RowKit
theorem LV {W:World} {g n c base:Nat} {e:TypeId} {l:List Int} (h:W.ownsRow base e 1 (.slice (some ⟨g,0,none⟩) n c) n (l.map zq)) (k:Nat) (hk:k < l.length):W.cell? ⟨g,k,none⟩=some (.int .i64 l[k]):=by
 have hn:n=l.length:=by have:=h.1;simp at this;exact this.symm
 obtain ⟨g',c',hv,-,-,-,hc⟩:=Du h (by omega);injection hv with h1 h2 h3;injection h1 with h1;injection h1 with h1;subst h1;exact hc k _ (by rw [List.getElem?_map,List.getElem?_eq_getElem hk];rfl)
theorem aKc (p q:List Int) (vp vq:Value) (w:World) (hl:p.length≤1000) (hl2:q.length≤1000) (hp:w.ownsRow 0 3 1 vp p.length (p.map zq)) (hq:w.ownsRow 0 3 1 vq q.length (q.map zq)) :
  Calls Tryz.prog 19 #[vp,vq] w fun e w' => e = .returned (.bool (decide (p=q)))∧Below w.heap.size w w':=by
 obtain ⟨A1,n1,rfl⟩:=jF hp;obtain ⟨A2,n2,rfl⟩:=jF hq;have HP:=hiQ hp;have HQ:=hiQ hq;clear hp hq;go_enter Tryz.func19,Tryz.ntmps19
 by_cases hlen:p.length=q.length
 ·
  have hb:((p.length:Int) != q.length)=false:=by simp [hlen]
  have Hlen:=hiQ hlen;clear hlen;go_wp2
  go_loopw [5] (fun i wr => ∃ k:Nat,i = .int .i64 (k:Int)∧k≤p.length∧p.take k=q.take k∧Below w.heap.size w wr) (fun i _ => p.length - (intOf i).toNat)
  case atStart => exact ⟨0,rfl,by omega,rfl,Below.refl _ _⟩
  case round =>
   obtain ⟨k,rfl,hk,htk,hbr⟩:=hrel;by_cases hlt:k < p.length
   ·
    have hlt2:k < q.length:=by have:=Hlen.out;omega
    obtain ⟨g1,_,hv1,_,hg1,-,-⟩:=Du HP.out (by omega);injection hv1 with hv1 _ hc1;subst hv1;subst hc1;obtain ⟨g2,_,hv2,_,hg2,-,-⟩:=Du HQ.out (by omega);injection hv2 with hv2 _ hc2;subst hv2;subst hc2;have a0:=(hbr.cell (p:=⟨g1,k,none⟩) hg1).trans (LV HP.out k hlt);have b0:=(hbr.cell (p:=⟨g2,k,none⟩) hg2).trans (LV HQ.out k hlt2);have hi1:(k:Int) < p.length:=by omega
    have hi2:(k:Int) < q.length:=by omega
    by_cases he:p[k]=q[k]
    ·
     have hne:(p[k] != q[k])=false:=by simp [he]
     have hts:p.take (k+1)=q.take (k+1):=by rw [List.take_succ_eq_append_getElem hlt,List.take_succ_eq_append_getElem hlt2,htk,he]
     have Hts:=hiQ hts;clear htk hts he;generalize p[k]=y at *;generalize q[k]=z at *;go_wp2_with fail;go_quiet (fail)
     go_wp2_with fail;go_roundw
     case rel => exact ⟨k+1,by go_num,by omega,Hts.out,below_drewN hbr _⟩
     case measure => simp [intOf];omega
    have hne:(p[k] != q[k])=true:=by simpa using he
    have hpq:Hid (decide (p=q)=false):=hiQ (decide_eq_false (fun e => he (by subst e;rfl)));clear htk he;generalize p[k]=y at *;generalize q[k]=z at *;go_wp2_with fail;go_quiet (fail)
    go_wp2_with fail;go_ret;exact ⟨au (by rw [hpq.out]),below_drewN hbr _⟩
   have hpq:Hid (decide (p=q)=true):=hiQ (decide_eq_true (by
    rw [List.take_of_length_le (by omega),List.take_of_length_le (by have:=Hlen.out;omega)] at htk;exact htk))
   clear htk;go_wp2_with fail;go_ret;exact ⟨au (by rw [hpq.out]),hbr⟩
 have hb:((p.length:Int) != q.length)=true:=by rw [bne_iff_ne];omega
 have hpq:Hid (decide (p=q)=false):=hiQ (decide_eq_false (fun e => hlen (by rw [e])));clear hlen;go_wp2
 go_ret;exact ⟨au (by rw [hpq.out]),Below.refl _ _⟩
noncomputable def MV (rs:List OB) (f:Nat):Nat→List Int
 | 0 => []
 | k+1 => match rs[k]? with
  | some x => if (fpE x.1 x.2).2=0∧(fpE x.1 x.2).1=f then MV rs f k ++ [(k:Int)] else MV rs f k
  | none => MV rs f k
theorem aEI (rs:List OB) (f:Nat):∀ k,(MV rs f k).length≤k
 | 0 => by rw [MV];simp
 | k+1 => by
  have ih:=aEI rs f k;rw [MV];split
  ·
   split
   · rw [List.length_append,List.length_singleton];omega
   omega
  omega
theorem aHw {rs:List OB} {f i:Nat} {x:OB} (hx:rs[i]?=some x) (h:(fpE x.1 x.2).2=0∧(fpE x.1 x.2).1=f):∀ k,i < k→(i:Int) ∈ MV rs f k
 | 0,h0 => by omega
 | k+1,h0 => by
  rw [MV];by_cases hk:i=k
  ·
   subst hk;rw [hx];show (i:Int) ∈ (if _ then _ else _);rw [if_pos h];simp
  have ih:=aHw hx h k (by omega);split
  ·
   split
   · simp [ih]
   exact ih
  exact ih
theorem zCv {p:Prop} (h:p:=by
 have hfk:=HFK.out;rw [if_neg hc] at hfk;have HF2:=hiQ hfk;have hcc:n1≠0∨(n1=0∧f1≠f):=by
  by_cases h:n1=0
  · exact .inr ⟨h,fun h2 => hc ⟨h,h2⟩⟩
  exact .inl h
 clear hfk HFK hc;rcases hcc with hc | ⟨rfl,hc⟩
 ·
  have t1:(n1 == 0)=false:=by simpa using hc
  clear hc;go_wp2_with fail;go_roundw
  case rel => exact ⟨k+1,by go_num,by omega,by rw [HF2.out];exact O.out.now,hb⟩
  case measure => simp [intOf];omega
 have t1:((f1:Int) == (f:Int))=false:=by rw [beq_eq_false_iff_ne];omega
 clear hc;go_wp2_with fail;go_roundw
 case rel => exact ⟨k+1,by go_num,by omega,by rw [HF2.out];exact O.out.now,hb⟩
 case measure => simp [intOf];omega):p:=h
theorem zEh {p:Prop} (h:p:=by
 replace hb:=hb.trans (hb4.mono (show w.heap.size≤w.heap.size by omega));clear hg4 hgat;go_wp2_with fail;go_roundw
 case rel => exact ⟨k+1,by go_num,by omega,by rw [HF2.out,List.length_append,List.map_append];exact hown4,hb⟩
 case measure => simp [intOf];omega):p:=h
theorem zGt {p:Prop} (h:p:=by
 obtain rfl:k=rs.length:=by omega
 go_wp2_with fail;go_ret;exact ⟨⟨_,rfl,O.out.now⟩,hb⟩):p:=h
theorem aKd (rs:List OB) (cs:List Value) (vl:Value) (f:Nat) (w:World) (hn:rs.length≤1000) (hr:Rd w w.heap.size 2 vl rs.length cs) (hrt:AV w w.heap.size cs rs)
  (hof:∀ x ∈ rs,∀ (A:Option Addr) (c:Nat) (W:World),Below w.heap.size w W→aU W W.heap.size (.slice A x.1.length c) x.1→Calls Tryz.prog 16 #[.agg #[.slice A x.1.length c,.int .i64 x.2]] W fun e w' => e = .returned (.tuple #[.int .u64 ((fpE x.1 x.2).1:Nat),.int .i64 (fpE x.1 x.2).2])∧Below W.heap.size W w') :
  Calls Tryz.prog 17 #[vl,.int .u64 (f:Nat)] w fun e w' => (∃ v,e = .returned v∧w'.ownsRow w.heap.size 3 1 v (MV rs f rs.length).length ((MV rs f rs.length).map zq))∧Below w.heap.size w w':=by
 obtain ⟨A,c,rfl,_⟩:=hr.form;have HR:=hiQ hr;have HRT:=hiQ hrt;have HOF:=hiQ hof;clear hr hrt hof;go_enter Tryz.func17,Tryz.ntmps17
 go_upto_region 3 with fail;have aD4:Below w.heap.size w w:=Below.refl _ _;go_loopw [5,12] (fun s5 s12 wr => ∃ k:Nat,s12 = .int .i64 k∧k≤rs.length∧wr.ownsRow w.heap.size 3 1 s5 (MV rs f k).length ((MV rs f k).map zq)∧Below w.heap.size w wr) (fun _ s12 _ => rs.length - (intOf s12).toNat)
 case atStart => exact ⟨0,rfl,Nat.zero_le _,World.ownsRow_nil _ _ _ _,aD4⟩
 case round =>
  clear aD4;obtain ⟨k,rfl,hk,hown,hb⟩:=hrel;obtain ⟨A5,c5,rfl⟩:=jF hown;have O:=hiQ (Kept.own hown);clear hown;by_cases hlt:k < rs.length
  ·
   obtain ⟨b,o,A1,c1,hA,hbb,x0,x1,hx⟩:=Y7 HR.out HRT.out k hlt;have hfk:MV rs f (k+1)=if (fpE rs[k].1 rs[k].2).2=0∧(fpE rs[k].1 rs[k].2).1=f then MV rs f k ++ [(k:Int)] else MV rs f k:=by rw [MV,List.getElem?_eq_getElem hlt]
   have hof:=HOF.out _ (List.getElem_mem hlt);have hkl:=aEI rs f k;replace x0:=(hb.cell (p:=⟨b,_,none⟩) hbb).trans x0;replace x1:=(hb.cell (p:=⟨b,_,none⟩) hbb).trans x1;generalize rs[k]=x at *;obtain ⟨us,u⟩:=x;simp only at x0 x1 hx hof hfk;have HX:=hiQ hx;have HC:=hiQ (hof A1 c1);generalize fpE us u=q at *;obtain ⟨f1,n1⟩:=q;simp only at hfk;have HFK:=hiQ hfk;have hi1:(k:Int) < rs.length:=by omega
   have hd0:decide ((k:Int) < 0)=false:=by simp
   have hd1:decide (rs.length≤k)=false:=by simpa using hlt
   generalize MV rs f k=l at *;clear hx hof hfk;subst hA;go_upto_region 5 with fail;refine aO (fun wd2 hb1 R => ?_);have hl4:=O.out.le;have hl5:=hb.size;replace O:=b1 O hb1;replace hb:=dT hb hb1;clear hb1;generalize wr.heap.size=g3 at *;clear x0 x1;obtain ⟨iV,iW⟩:=R.out.c2;go_wp2_with fail;clear iV iW;((with_reducible refine (HC.out _ hb (HX.out.on hb)).mono ?_);rintro e wL ⟨rfl,hb7⟩);obtain ⟨R,O⟩:=b2 R O hb7;replace hb:=dT hb hb7;clear hb7;by_cases hc:n1=0∧f1=f
   ·
    obtain ⟨rfl,rfl⟩:=hc;have hfk:=HFK.out;rw [if_pos ⟨rfl,rfl⟩] at hfk;have HF2:=hiQ hfk;clear hfk HFK;go_upto_region 7 with fail;go_wp2_with (at_builtin;refine fA rfl _ _ _ rfl w.heap.size 3 _ 1 8 Tryz.underlying39 oP rfl (by decide) _ l.length _ rfl O.out.now [.int .i64 (k:Nat)] _ 1 _ rfl rfl rfl (by simp [Value.oneCell']) (by omega) (by omega) (hb).size ?_;intro g2 cap w4 hown4 hg4 hgat hb4)
    clear O R;exact zEh
   exact zCv
  exact zGt
theorem aI7 (rs:List OB) (cs:List Value) (vl:Value) (f:Nat) (w:World) (hn:rs.length≤1000) (hr:Rd w w.heap.size 2 vl rs.length cs) (hrt:AV w w.heap.size cs rs)
  (hof:∀ x ∈ rs,∀ (A:Option Addr) (c:Nat) (W:World),Below w.heap.size w W→aU W W.heap.size (.slice A x.1.length c) x.1→Calls Tryz.prog 24 #[.agg #[.slice A x.1.length c,.int .i64 x.2]] W fun e w' => e = .returned (.tuple #[.int .u64 ((fpE x.1 x.2).1:Nat),.int .i64 (fpE x.1 x.2).2])∧Below W.heap.size W w') :
  Calls Tryz.prog 20 #[vl,.int .u64 (f:Nat)] w fun e w' => (∃ v,e = .returned v∧w'.ownsRow w.heap.size 3 1 v (MV rs f rs.length).length ((MV rs f rs.length).map zq))∧Below w.heap.size w w':=by
 obtain ⟨A,c,rfl,_⟩:=hr.form;have HR:=hiQ hr;have HRT:=hiQ hrt;have HOF:=hiQ hof;clear hr hrt hof;go_enter Tryz.func20,Tryz.ntmps20
 go_upto_region 3 with fail;have aD4:Below w.heap.size w w:=Below.refl _ _;go_loopw [5,6] (fun s5 s6 wr => ∃ k:Nat,s6 = .int .i64 k∧k≤rs.length∧wr.ownsRow w.heap.size 3 1 s5 (MV rs f k).length ((MV rs f k).map zq)∧Below w.heap.size w wr) (fun _ s6 _ => rs.length - (intOf s6).toNat)
 case atStart => exact ⟨0,rfl,Nat.zero_le _,World.ownsRow_nil _ _ _ _,aD4⟩
 case round =>
  clear aD4;obtain ⟨k,rfl,hk,hown,hb⟩:=hrel;obtain ⟨A5,c5,rfl⟩:=jF hown;have O:=hiQ (Kept.own hown);clear hown;by_cases hlt:k < rs.length
  ·
   obtain ⟨b,o,A1,c1,hA,hbb,x0,x1,hx⟩:=Y7 HR.out HRT.out k hlt;have hfk:MV rs f (k+1)=if (fpE rs[k].1 rs[k].2).2=0∧(fpE rs[k].1 rs[k].2).1=f then MV rs f k ++ [(k:Int)] else MV rs f k:=by rw [MV,List.getElem?_eq_getElem hlt]
   have hof:=HOF.out _ (List.getElem_mem hlt);have hkl:=aEI rs f k;replace x0:=(hb.cell (p:=⟨b,_,none⟩) hbb).trans x0;replace x1:=(hb.cell (p:=⟨b,_,none⟩) hbb).trans x1;generalize rs[k]=x at *;obtain ⟨us,u⟩:=x;simp only at x0 x1 hx hof hfk;have HX:=hiQ hx;have HC:=hiQ (hof A1 c1);generalize fpE us u=q at *;obtain ⟨f1,n1⟩:=q;simp only at hfk;have HFK:=hiQ hfk;have hi1:(k:Int) < rs.length:=by omega
   have hd0:decide ((k:Int) < 0)=false:=by simp
   have hd1:decide (rs.length≤k)=false:=by simpa using hlt
   generalize MV rs f k=l at *;clear hx hof hfk;subst hA;go_wp2_with fail;clear x0 x1;((with_reducible refine (HC.out _ hb (HX.out.on hb)).mono ?_);rintro e wd1 ⟨rfl,hb2⟩);replace O:=b1 O hb2;replace hb:=dT hb hb2;clear hb2;by_cases hc:n1=0∧f1=f
   ·
    obtain ⟨rfl,rfl⟩:=hc;have hfk:=HFK.out;rw [if_pos ⟨rfl,rfl⟩] at hfk;have HF2:=hiQ hfk;clear hfk HFK;go_upto_region 7 with fail;go_wp2_with (at_builtin;refine fA rfl _ _ _ rfl w.heap.size 3 _ 1 8 Tryz.underlying39 oP rfl (by decide) _ l.length _ rfl O.out.now [.int .i64 (k:Nat)] _ 1 _ rfl rfl rfl (by simp [Value.oneCell']) (by omega) (by omega) (hb).size ?_;intro g2 cap w4 hown4 hg4 hgat hb4)
    clear O;exact zEh
   exact zCv
  exact zGt
def aFB (src rs:List OB):Prop:=(∀ x ∈ rs,x ∈ src∧(aj2 x.1 x.2).2=0)∧∀ (i k:Nat) (x y:OB),i < k→rs[i]?=some x→rs[k]?=some y→aot x.1 x.2 y.1 y.2=false
theorem aFB.nil (src:List OB):aFB src []:=⟨fun x h => by simp at h,fun i k x y _ h => by simp at h⟩
theorem aKe {ts:List ay} {t:Int} (h:(aj2 ts t).2=0):gV ts t=0:=by
 by_cases hr:gV ts t=0
 · exact hr
 unfold aj2 at h;rw [if_pos hr] at h;exact absurd h hr
theorem aKf {ts:List ay} {t:Int} (h:(aj2 ts t).2=0):aot ts t ts t=true:=by
 have hr:=aKe h;obtain ⟨hv,h0,hl⟩:=aro hr;unfold aot;rw [if_pos ⟨hr,hr⟩];exact aop.2 (Y5.refl (FP hv) (by omega))
theorem aHx {g:OB→Bool} : ∀ {l:List OB} {k i:Nat},axi g l k=some i→∃ x,l[i - k]?=some x∧k≤i∧g x=true
 | [],k,i,h => by cases h
 | x :: r,k,i,h => by
  unfold axi at h;split at h
  · next hg => injection h with h;subst h;exact ⟨x,by simp,Nat.le_refl _,hg⟩
  obtain ⟨y,h1,h2,h3⟩:=aHx h;refine ⟨y,?_,by omega,h3⟩;rw [show i - k=(i - (k+1))+1 by omega,List.getElem?_cons_succ];exact h1
theorem aHy {g:OB→Bool} : ∀ {l:List OB} {k:Nat},axi g l k=none→∀ x ∈ l,g x=false
 | [],_,_,x,hx => by simp at hx
 | y :: r,k,h,x,hx => by
  unfold axi at h;split at h
  · cases h
  next hg =>
  rcases List.mem_cons.1 hx with rfl | hx
  · simpa using hg
  exact aHy h x hx
theorem aKO {src rs:List OB} {cs:List Value} {ts:List ay} {A:Option Addr} {c:Nat} {t:Int} (hr:aFB src rs) (hs:(ts,t) ∈ src) (hb:(aj2 ts t).2=0) :
  aFB src (atd rs cs ts A c t).1∧(atd rs cs ts A c t).1.length≤rs.length+1∧∃ (i:Nat) (x:OB),(atd rs cs ts A c t).2.2=(i:Int)∧(atd rs cs ts A c t).1[i]?=some x∧aot x.1 x.2 ts t=true:=by
 unfold atd;rw [if_neg (by simpa using hb)];cases ho:axi (fun x => aot x.1 x.2 ts t) rs 0 with
 | some i =>
  obtain ⟨x,h1,_,h3⟩:=aHx ho;rw [Nat.sub_zero] at h1;exact ⟨hr,by show rs.length≤_;omega,i,x,rfl,h1,h3⟩
 | none =>
  have hn:=aHy ho;refine ⟨⟨fun x hx => ?_,fun i k x y hik hx hy => ?_⟩,by show (rs ++ [(ts,t)]).length≤_;simp,rs.length,(ts,t),rfl,by simp,aKf hb⟩
  ·
   rcases List.mem_append.1 hx with hx | hx
   · exact hr.1 x hx
   rw [List.mem_singleton.1 hx];exact ⟨hs,hb⟩
  have hk:k < (rs ++ [(ts,t)]).length:=(List.getElem?_eq_some_iff.1 hy).1;rw [List.length_append,List.length_singleton] at hk;have hx2:rs[i]?=some x:=by rw [List.getElem?_append_left (by omega)] at hx;exact hx
  by_cases hk2:k < rs.length
  ·
   rw [List.getElem?_append_left hk2] at hy;exact hr.2 i k x y hik hx2 hy
  obtain rfl:k=rs.length:=by omega
  have e:y=(ts,t):=by simpa using hy.symm
  subst e;exact hn x (List.mem_of_getElem? hx2)
theorem aKg (l:List Int) (n:Int) (v:Value) (w:World) (hl:l.length≤1000) (hr:w.ownsRow 0 3 1 v l.length (l.map zq)) (hm:n ∈ l) :
  Calls Tryz.prog 18 #[v,.int .i64 n] w fun e w' => e = .returned (.bool true)∧Below w.heap.size w w':=by
 obtain ⟨A,c,rfl⟩:=jF hr;have hcell:∀ k (h:k < l.length),∃ g,A=some ⟨g,0,none⟩∧g < w.heap.size∧w.cell? ⟨g,k,none⟩=some (.int .i64 l[k]):=fun k hk => by
  obtain ⟨b,o,hA,hb,hc⟩:=(Rd.uX hr).at_ (by omega);have ho:o=0:=by
   rcases hr.2 with ⟨h3,_⟩ | ⟨g,cap,cur,h3,_⟩
   · rw [hA] at h3;cases h3
   rw [hA] at h3;injection h3 with h3;injection h3 with h3;injection h3 with _ h3
  subst ho;refine ⟨b,hA,hb,?_⟩;have:=hc k (zq l[k]) (by rw [List.getElem?_map,List.getElem?_eq_getElem hk];rfl);rw [Nat.zero_add] at this;exact this
 have HC:=hiQ hcell;have HM:=hiQ hm;clear hcell hr hm;go_enter Tryz.func18,Tryz.ntmps18
 go_upto_region 2 with fail;have aD4:Below w.heap.size w w:=Below.refl _ _;go_loopw [5] (fun s5 wr => ∃ k:Nat,s5 = .int .i64 k∧k≤l.length∧(∀ x ∈ l.take k,x≠n)∧Below w.heap.size w wr) (fun s5 _ => l.length - (intOf s5).toNat)
 case atStart => exact ⟨0,rfl,Nat.zero_le _,by simp,aD4⟩
 case round =>
  clear aD4;obtain ⟨k,rfl,hk,hall,hb⟩:=hrel;by_cases hlt:k < l.length
  ·
   obtain ⟨g,hA,hg,x0⟩:=HC.out k hlt;replace x0:=(hb.cell (p:=⟨g,_,none⟩) hg).trans x0;have hi1:(k:Int) < l.length:=by omega
   have hd0:decide ((k:Int) < 0)=false:=by simp
   have hd1:decide (l.length≤k)=false:=by simpa using hlt
   subst hA;by_cases he:l[k]=n
   ·
    rw [he] at x0;clear he hall;go_wp2_with fail;go_ret;exact ⟨rfl,hb⟩
   have aGc:∀ x ∈ l.take (k+1),x≠n:=fun x hx => by
    rw [List.take_succ_eq_append_getElem hlt] at hx;rcases List.mem_append.1 hx with hx | hx
    · exact hall x hx
    rw [List.mem_singleton.1 hx];exact he
   have yP:=hiQ aGc;have t1:(l[k] == n)=false:=by simpa using he
   clear he hall aGc;generalize l[k]=y at *;go_wp2_with fail;go_roundw
   case rel => exact ⟨k+1,by go_num,by omega,yP.out,hb⟩
   case measure => simp [intOf];omega
  obtain rfl:k=l.length:=by omega
  rw [List.take_of_length_le (Nat.le_refl _)] at hall;exact absurd rfl (hall n HM.out)
end Go.Proofs.YtlamhkffnlgofaaGreatDoor
