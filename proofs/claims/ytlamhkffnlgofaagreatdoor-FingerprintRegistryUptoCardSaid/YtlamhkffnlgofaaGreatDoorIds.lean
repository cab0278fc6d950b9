/- What schema.ids computes: IDs ascend, names differ and are names. No condition. -/
import Derived.Test.YtlamhkffnlgofaaGreatDoorHAE
import Derived.Test.YtlamhkffnlgofaaGreatDoorFitsD
set_option maxHeartbeats 1600000
set_option maxRecDepth 100000
namespace Go.Proofs.YtlamhkffnlgofaaGreatDoor
open Go.ChangeShapes Go.WideShapes Go.ChangeAt Go.RowKit
def nO:List Raw→Option Int→List (List UInt8)→Bool
 | [],_,_ => true
 | r :: l,p,S => mM r.1 && (xH p r.1 && (!S.contains r.2 && (nameB r.2 && nO l (some r.1) (S ++ [r.2]))))
def nP (l:List Raw):Bool:=nO l none [] && decide (l.length≤16)
theorem SK (l:List Raw) (k:Nat) (h:k < l.length) (S:List (List UInt8)) (p:Option Int) :
  nO (l.drop k) p S=(mM l[k].1 && (xH p l[k].1 && (!S.contains l[k].2 && (nameB l[k].2 && nO (l.drop (k+1)) (some l[k].1) (S ++ [l[k].2]))))):=by
 rw [List.drop_eq_getElem_cons h,nO]
theorem ao5 (l:List Raw) (k:Nat) (h:k < l.length):(l.take k).map Prod.snd ++ [l[k].2]=(l.take (k+1)).map Prod.snd:=by
 rw [List.take_succ_eq_append_getElem h,List.map_append];rfl
theorem YG (a:Int) (h:a < 1):mM a=false:=by unfold mM;simp;omega
theorem YH (a:Int) (h:1000 < a):mM a=false:=by unfold mM;simp;omega
theorem YI (a:Int) (h1:1≤a) (h2:a≤1000):mM a=true:=by unfold mM;simp;omega
theorem zCc {p:Prop} (h:p:=by
 go_wp2_with fail;go_ret;exact ⟨au Hno.out.symm,hb⟩):p:=h
theorem zIb {p:Prop} (h:p:=by
 have Hno:Hid (nP l=false):=by
  show _=_;unfold nP;rw [hid,hn];simp
 rw [hn] at hname;have HN:=hiQ hname;clear hid hset hc hname hn;go_wp2_with fail;refine (HN.out _).mono ?_;rintro e w2 ⟨rfl,rfl⟩;exact zCc):p:=h
theorem zJc {p:Prop} (h:p:=by
 have Hno:Hid (nP l=false):=by
  show _=_;unfold nP;rw [hid,hc];simp
 rw [hc] at hlook;clear hid hset hc;exact zCc):p:=h
theorem zJh {p:Prop} (h:p:=by
 have Hno:Hid (nP l=false):=by
  show _=_;unfold nP;rw [hid,YG a ha1];simp
 clear hid hlook hset;exact zCc):p:=h
theorem zJi {p:Prop} (h:p:=by
 have Hno:Hid (nP l=false):=by
  show _=_;unfold nP;rw [hid,YH a ha2];simp
 clear hid hlook hset;exact zCc):p:=h
theorem VY (l:List Raw) (va vn:Value) (w:World) (hl:l.length≤6000000000000) (hri:∀ r ∈ l,yR r) (h1:Rd w w.heap.size 1 va l.length (l.map fun r => .int .i64 r.1)) (h2:Rd w w.heap.size 1 vn l.length (l.map fun r => .string ⟨r.2.toArray⟩)) :
  Calls Tryz.prog 146 #[va,vn] w (RTq w (.bool (nP l))):=by
 obtain ⟨A,c,rfl,hca⟩:=h1.form;obtain ⟨B,d,rfl,hcb⟩:=h2.form;have H1:=hiQ h1;have H2:=hiQ h2;have hmm:=@run_makeMap Tryz.prog;have Om:=hiQ hri;clear h1 h2 hri;go_enter Tryz.func146,Tryz.ntmps146
 go_wp2_with fail;clear hmm;go_loopw [11] (fun i wr => ∃ k:Nat,k≤l.length∧i = .int .i64 k∧qh wr w.heap.size k ((l.take k).map Prod.snd)∧nO l none []=nO (l.drop k) (nD l k) ((l.take k).map Prod.snd)∧Below w.heap.size w wr) (fun i _ => l.length - (intOf i).toNat)
 case atStart => exact ⟨0,by omega,rfl,qh.made w,by simp [nD],(Below.refl _ _).alloc (Nat.le_refl _) _⟩
 case round =>
  obtain ⟨k,hk,rfl,hset,hid,hb⟩:=hrel;by_cases hlt:k < l.length
  ·
   obtain ⟨b1,o1,rfl,hb1,hc1⟩:=(H1.out.below hb).at_ (by omega);obtain ⟨b2,o2,rfl,hb2,hc2⟩:=(H2.out.below hb).at_ (by omega);have x1:=hc1 k (.int .i64 l[k].1) (by simp [hlt]);have x2:=hc2 k (.string ⟨l[k].2.toArray⟩) (by simp [hlt]);rw [SK l k hlt] at hid;have hsl:=(Om.out _ (List.getElem_mem hlt)).2;obtain ⟨a,haq⟩ : ∃ a,l[k].1=a:=⟨_,rfl⟩
   obtain ⟨s,Fe⟩ : ∃ s,l[k].2=s:=⟨_,rfl⟩
   rw [haq] at x1 hid;rw [Fe] at x2 hid hsl;have hi1:(k:Int) < l.length:=by omega
   by_cases hk0:k=0
   ·
    have hp:xH (nD l k) a=true:=by simp [nD,xH,hk0]
    have hkd:decide (0 < (k:Int))=false:=decide_eq_false (by omega);have apH:(k:Int)≤0:=by omega
    rw [hp,Bool.true_and] at hid;clear hc1 hc2 hp hk0;have hlook:=hset.look s (by have:=(Om.out _ (List.getElem_mem hlt)).2;rw [Fe] at this;simp only [maxLen];omega);by_cases ha1:a < 1
    · exact zJh
    by_cases ha2:1000 < a
    · exact zJi
    rw [YI a (by omega) (by omega),Bool.true_and] at hid;have ha3:1≤a∧a≤1000:=by omega
    clear ha1 ha2
    skip
    cases hc:((l.take k).map Prod.snd).contains s with
    | true =>
     exact zJc
    | false =>
     rw [hc] at hlook hid;rw [Bool.not_false,Bool.true_and] at hid;have hname:=fun W => yj s W;cases hn:nameB s with
     | false =>
      exact zIb
     | true =>
      rw [hn] at hname hid;rw [Bool.true_and] at hid;have HN:=hiQ hname;have avp:=hiQ hid;have aef:=hiQ hset;clear hid hset hc hname hn;go_wp2_with fail;refine (HN.out _).mono ?_;rintro e w2 ⟨rfl,rfl⟩;go_wp2_with (at_mapUpdate;refine aqP rfl _ _ _ rfl w.heap.size k _ rfl aef.out (by unfold maxLen;omega) s rfl rfl (by unfold maxLen;omega) ?_;intro w3 CB hg3)
      have hb3:=hb.grown hg3 hb.size (fun j hj => by cases hj;exact Nat.le_refl _);have KZ:=hiQ CB;have HB3:=hiQ hb3;clear CB hg3 hb3 hlook;go_wp2_with fail;go_roundw
      case rel => exact ⟨k+1,by omega,by go_num,by have h:=KZ.out;rw [← Fe,ao5 l (k) hlt] at h;exact h,by rw [avp.out,← Fe,ao5 l (k) hlt,tZ l (k) hlt,haq],HB3.out⟩
      case measure => simp [intOf];omega
   obtain ⟨j,rfl⟩ : ∃ j,k=j+1:=⟨k - 1,by omega⟩
   have x0:=hc1 j (.int .i64 l[j].1) (by simp [show j < l.length by omega]);rw [tZ l j (by omega)] at hid;have hw2:((j:Int)+1).toNat=j+1:=by omega
   have hw3:(j:Int)+1 - 1=j:=by omega
   have hi2:(j:Int) < l.length:=by omega
   generalize l[j].1=q at *;clear hc1 hc2 hk0;have hlook:=hset.look s (by have:=(Om.out _ (List.getElem_mem hlt)).2;rw [Fe] at this;simp only [maxLen];omega);by_cases ha1:a < 1
   · exact zJh
   by_cases ha2:1000 < a
   · exact zJi
   rw [YI a (by omega) (by omega),Bool.true_and] at hid;have ha3:1≤a∧a≤1000:=by omega
   clear ha1 ha2;by_cases hle:a≤q
   ·
    have Hno:Hid (nP l=false):=by
     show _=_;unfold nP;rw [hid,show xH (some q) a=false by simp [xH];omega];simp
    clear hid hlook hset;exact zCc
   rw [show xH (some q) a=true by simp [xH];omega,Bool.true_and] at hid;have hle2:q < a:=by omega
   clear hle;cases hc:((l.take (j+1)).map Prod.snd).contains s with
   | true =>
    exact zJc
   | false =>
    rw [hc] at hlook hid;rw [Bool.not_false,Bool.true_and] at hid;have hname:=fun W => yj s W;cases hn:nameB s with
    | false =>
     exact zIb
    | true =>
     rw [hn] at hname hid;rw [Bool.true_and] at hid;have HN:=hiQ hname;have avp:=hiQ hid;have aef:=hiQ hset;clear hid hset hc hname hn;go_wp2_with fail;refine (HN.out _).mono ?_;rintro e w2 ⟨rfl,rfl⟩;go_wp2_with (at_mapUpdate;refine aqP rfl _ _ _ rfl w.heap.size (j+1) _ rfl aef.out (by unfold maxLen;omega) s rfl rfl (by unfold maxLen;omega) ?_;intro w3 CB hg3)
     have hb3:=hb.grown hg3 hb.size (fun j hj => by cases hj;exact Nat.le_refl _);have KZ:=hiQ CB;have HB3:=hiQ hb3;clear CB hg3 hb3 hlook;go_wp2_with fail;go_roundw
     case rel => exact ⟨(j+1)+1,by omega,by go_num,by have h:=KZ.out;rw [← Fe,ao5 l ((j+1)) hlt] at h;exact h,by rw [avp.out,← Fe,ao5 l ((j+1)) hlt,tZ l ((j+1)) hlt,haq],HB3.out⟩
     case measure => simp [intOf];omega
  have hke:k=l.length:=by omega
  rw [List.drop_eq_nil_of_le (by omega)] at hid;have avp:=hiQ hid;clear hid hset;go_wp2_with fail;go_ret;exact ⟨au (by unfold nP;rw [avp.out];simp [nO];omega),hb⟩
end Go.Proofs.YtlamhkffnlgofaaGreatDoor
