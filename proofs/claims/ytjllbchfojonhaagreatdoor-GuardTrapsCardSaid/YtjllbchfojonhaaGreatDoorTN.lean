/- What start-up code has laid, as the walks ask it (the typing seat). ; Package scan: letter, digit, inner, Runes; contracts. ; Package scan: Name; the document's Name; contracts. ; The document's Name: its contract. -/
import Derived.Test.YtjllbchfojonhaaGreatDoorChecked
import Derived.Test.YtjllbchfojonhaaGreatDoorB1
import Derived.Test.YtjllbchfojonhaaGreatDoorShelf
import Derived.Shelf.Unicode.PredsPay
import Derived.Lib.Strings
set_option linter.unusedVariables false
set_option linter.unusedSimpArgs false
set_option maxRecDepth 100000
set_option maxHeartbeats 200000000
namespace Go.Proofs.YtjllbchfojonhaaGreatDoor
open Go.RowKit Go.Shelf Go.Lib
structure Tabs (w:World):Prop where
 props:Lib.TabIs Tryz.prog w "unicode.properties" .u8 Lib.propertiesTab
 letter:Lib.RVar 1 Lib.letterT w
theorem Tabs.below {w w':World} (h:Tabs w) (k:Below w.heap.size w w'):Tabs w':=
 ⟨TabIs_below (show Tryz.prog.globalNamed "unicode.properties" =some 0 by kernel_rfl) h.props k,RVar_below h.letter k⟩
theorem Tabs.keep {w w':World} (h:Tabs w) (k:ai w w' []):Tabs w':=h.below k.below_
theorem isLetter_any (r:Int) (w:World) (ht:Tabs w) (h1: -2147483648≤r) (h2:r≤2147483647):Calls Tryz.prog 113 #[.int .i32 r] w fun e w'=>e= .returned (.bool (Lib.isLetterU r))∧ai w w' []:=
 (show Calls Tryz.prog 113 #[.int .i32 r] w fun e w'=>e= .returned (.bool (Lib.isLetterU r))∧Below w.heap.size w w' from Any.unicode_IsLetter_all Tryz.lays200 (by kernel_rfl) r w h1 h2 ht.props ht.letter).mono fun _ _ ⟨he,hb⟩=>⟨he,ai.of_below hb⟩
end Go.Proofs.YtjllbchfojonhaaGreatDoor
namespace Go.Proofs.YtjllbchfojonhaaGreatDoor
open Go.RowKit
theorem letter_any (r:Int) (w:World) (ht:Tabs w) (h1: -2147483648≤r) (h2:r≤2147483647):
  Calls Tryz.prog 140 #[.int .i32 r] w fun e w'=>e= .returned (.bool (Cb r))∧ai w w' []:=by
 obtain⟨L,hL⟩:∃L,Lib.isLetterU r=L:=⟨_,rfl⟩;have C:=isLetter_any r w ht h1 h2;rw[hL]at C;have CC:=ag C;have HL:=ag hL;clear C hL;by_cases h:r=65533
 ·subst h;cases L
  all_goals
   go_enter Tryz.func140,Tryz.ntmps140;go_wp2_with fail
   refine(CC.o).mono ?_;rintro e w1 ⟨rfl,k1⟩;go_wp2;go_ret;exact⟨ay (by simp[Cb]),⟨k1.os,k1.tape,k1.output,k1.size,k1.block⟩⟩
 ·have hb:(r !=65533)=true:=(by simpa using h);have hb2:(r==65533)=false:=(by simpa using h);cases L
  all_goals
   go_enter Tryz.func140,Tryz.ntmps140;go_wp2_with fail
   refine(CC.o).mono ?_;rintro e w1 ⟨rfl,k1⟩;go_wp2;go_ret;exact⟨ay (by simp[Cb,HL.o,hb2]),⟨k1.os,k1.tape,k1.output,k1.size,k1.block⟩⟩
theorem digit_any (r:Int) (w:World):Calls Tryz.prog 143 #[.int .i32 r] w fun e w'=>e= .returned (.bool (digitB r))∧w=w':=by
 by_cases h1:48≤r<;>by_cases h2:r≤57
 all_goals
  go_enter Tryz.func143,Tryz.ntmps143;go_wp2;go_ret;exact⟨ay (by simp[digitB,h1,h2]),rfl⟩
theorem inner_any (r:Int) (w:World) (ht:Tabs w) (h1: -2147483648≤r) (h2:r≤2147483647):
  Calls Tryz.prog 141 #[.int .i32 r] w fun e w'=>e= .returned (.bool (innerB r))∧ai w w' []:=by
 obtain⟨L,hL⟩:∃L,Cb r=L:=⟨_,rfl⟩;obtain⟨D,hD⟩:∃L,digitB r=L:=⟨_,rfl⟩;obtain⟨A,hA⟩:∃L,(r==46)=L:=⟨_,rfl⟩;obtain⟨B,hB⟩:∃L,(r==95)=L:=⟨_,rfl⟩;have C:=letter_any r w ht h1 h2;have E:=fun w=>digit_any r w;rw[hL]at C;rw[hD]at E;have CC:=ag C;have EE:=ag E;have HX:Hid (innerB r=(L||D||A||B)):=(by unfold innerB;rw[hL,hD,hA,hB];exact rfl);clear C E hL hD;cases L<;>cases D<;>cases A<;>cases B
 all_goals
  go_enter Tryz.func141,Tryz.ntmps141;go_wp2_with fail
  refine(CC.o).mono ?_;rintro e w1 ⟨rfl,k1⟩;have K1:=ag k1;clear k1;go_wp2_with (refine(EE.o _).mono ?_;rintro e w2 ⟨rfl,rfl⟩)
  go_ret;exact⟨ay (by rw[HX.o];rfl),K1.o⟩
theorem runes_any (s:ByteArray) (w:World) (hs:s.size≤9223372036854775807):
  Calls Tryz.prog 142 #[.string s] w fun e w'=>e= .returned (.int .i64 (Lib.runeCount s))∧ai w w' []:=by
 have hc:=Lib.runeCount_le s;go_enter Tryz.func142,Tryz.ntmps142;go_wp2;go_loopw [3] (fun v wr=>∃(pos fuel n:Nat),v= .int .i64 n∧wr.heap[w.heap.size]? =some (.stringIter s pos)∧ai w wr []∧Hid (n+Lib.runeCountFrom s fuel pos=Lib.runeCount s)∧n≤pos∧s.size≤pos+fuel) (fun _ wr=>s.size -wr.iterPos w.heap.size)
 case atStart=>exact⟨0,s.size,0,rfl,World.iter_heap w s 0,(ai.refl _ _).alloc _,by simp[Hid,Lib.runeCount],by omega,by omega⟩
 case round=>
  obtain⟨pos,fuel,n,rfl,hit,hk,HS,hn,hf⟩:=hrel;have hpos0:=iterPos_of hit;by_cases hp:pos<s.size
  ·have hnx:∀ty,(Instr.next (.pointer (some ⟨w.heap.size,0,none⟩)) true ty).run Tryz.prog wr=_:=fun ty=>Lib.run_next_any_at wr w.heap.size s pos ty hit hp;have hwd:=Lib.decode_width_pos s pos hp;obtain⟨fuel,rfl⟩:∃f',fuel=f'+1:=⟨fuel -1,by omega⟩;have hit2:=Lib.iterAt_heap wr w.heap.size s pos (pos+(Utf8.decode s pos).2) hit;have hk2:=hk.iterAt (k:=w.heap.size) (.inr (Nat.le_refl _)) s (pos+(Utf8.decode s pos).2);have HE:=ag (runes_step (f:=fuel) hp);have HH:=ag hit2;have HK:=ag hk2;have HP:=ag hpos0;clear hit hk hit2 hk2 hpos0;go_wp2;go_roundw
   case rel=>exact⟨_,fuel,n+1,by go_num,HH.o,HK.o,(by show _=_;rw[←HS.o,HE.o];omega),by omega,by omega⟩
   case measure=>rw[iterPos_of HH.o,HP.o];omega
  ·have hnx:∀ty,(Instr.next (.pointer (some ⟨w.heap.size,0,none⟩)) true ty).run Tryz.prog wr=_:=fun ty=>Lib.run_next_end_at wr w.heap.size s pos ty hit hp;have HK:=ag hk;have HE:=ag (Lib.runeCountFrom_end s fuel pos hp);clear hit hk hpos0;go_wp2;go_ret;exact⟨zw (by have:=HS.o;rw[HE.o]at this;omega),HK.o⟩
theorem nameB_of {s:ByteArray} (h0:s.size≠0) (h:qd s s.size 0=true):wy s=decide (Lib.runeCount s≤16):=by simp[wy,h,h0]
theorem nameB_no {s:ByteArray} (h:qd s s.size 0=false):wy s=false:=by simp[wy,h]
theorem okAt_parts (pos:Nat) (r:Int) (Z L I:Bool) (hz:(pos==0)=Z) (hL:Cb r=L) (hI:innerB r=I):okAt pos r= !((Z&& !L)|| !I):=by
  unfold okAt;rw[hz,hL,hI]
theorem name_any (s:ByteArray) (w:World) (ht:Tabs w) (hs:s.size≤9223372036854775807):
    Calls Tryz.prog 136 #[.string s] w fun e w'=>e= .returned (.bool (wy s))∧ai w w' []:=by
  by_cases h0:s.size=0
  · have hss:s=⟨#[]⟩:=ByteArray.ext (Array.eq_empty_of_size_eq_zero h0)
    subst hss;have hrl:∀wr:World,wr.heap[w.heap.size]? =some (.stringIter ⟨#[]⟩ 0)→∀ty,(Instr.next (.pointer (some ⟨w.heap.size,0,none⟩)) true ty).run Tryz.prog wr=_:=fun wr h ty=>Lib.run_next_end_at wr w.heap.size ⟨#[]⟩ 0 ty h (by show ¬0<0;omega);have hnx:=hrl _ (World.iter_heap w ⟨#[]⟩ 0);clear hrl;go_enter Tryz.func136,Tryz.ntmps136;go_wp2;go_loopw [3] (fun v wr=>wr=w.iter ⟨#[]⟩ 0) (fun _ wr=>0)
    case atStart=>rfl
    case round=>
      subst hrel;go_wp2;go_ret;exact⟨rfl,(ai.refl _ _).alloc _⟩
  have hem:s.toList.isEmpty=false:=by
    rw[ByteArray.toList_eq];cases hd:s.data.toList with
    |nil=>exact absurd (by rw[←ByteArray.size_data,←Array.length_toList,hd];rfl) h0
    |cons a l=>rfl
  obtain⟨N,hN⟩:∃N,qd s s.size 0=N:=⟨_,rfl⟩;have HN:=ag hN;clear hN;go_enter Tryz.func136,Tryz.ntmps136;go_wp2;go_loopw [3] (fun v wr=>∃(pos fuel:Nat),wr.heap[w.heap.size]? =some (.stringIter s pos)∧ai w wr []∧Hid (qd s fuel pos=N)∧s.size≤pos+fuel) (fun _ wr=>s.size -wr.iterPos w.heap.size)
  case atStart=>exact⟨0,s.size,World.iter_heap w s 0,(ai.refl _ _).alloc _,HN,by omega⟩
  case round=>
    obtain⟨pos,fuel,hit,hk,HS,hf⟩:=hrel;have hpos0:=iterPos_of hit;by_cases hp:pos<s.size
    · have hnx:∀ty,(Instr.next (.pointer (some ⟨w.heap.size,0,none⟩)) true ty).run Tryz.prog wr=_:=fun ty=>Lib.run_next_any_at wr w.heap.size s pos ty hit hp
      have hwd:=Lib.decode_width_pos s pos hp;obtain⟨fuel,rfl⟩:∃f',fuel=f'+1:=⟨fuel -1,by omega⟩;have hit2:=Lib.iterAt_heap wr w.heap.size s pos (pos+(Utf8.decode s pos).2) hit;have hk2:=hk.iterAt (k:=w.heap.size) (.inr (Nat.le_refl _)) s (pos+(Utf8.decode s pos).2);obtain⟨W1,hW1⟩:∃W1,W1=wr.iterAt w.heap.size s (pos+(Utf8.decode s pos).2):=⟨_,rfl⟩;rw[←hW1]at hnx hit2 hk2;have ht1:=ht.keep hk2;have hr1:=decode_le s pos;have HY:=ag (nameFrom_yes (f:=fuel) hp);have HNo:=ag (nameFrom_no (f:=fuel) hp);have CL:=ag (fun w h=>letter_any ((Utf8.decode s pos).1:Int) w h (by omega) (by omega));have CI:=ag (fun w h=>inner_any ((Utf8.decode s pos).1:Int) w h (by omega) (by omega));obtain⟨Z,hZ⟩:∃Z,(pos==0)=Z:=⟨_,rfl⟩;obtain⟨L,hL⟩:∃Z,Cb ((Utf8.decode s pos).1:Int)=Z:=⟨_,rfl⟩;obtain⟨I,hI⟩:∃Z,innerB ((Utf8.decode s pos).1:Int)=Z:=⟨_,rfl⟩;have HO:=ag (okAt_parts pos ((Utf8.decode s pos).1:Int) Z L I hZ hL hI);rw[hL]at CL;rw[hI]at CI;have hZi:((pos:Int)==0)=Z:=(by rw[←hZ,Bool.eq_iff_iff];simp);have HT:=ag ht1;have HH:=ag hit2;have HK:=ag hk2;have HP:=ag hpos0;clear hL hI hZ hit hk hit2 hk2 hpos0 hW1 ht1 hr1;cases Z<;>cases L<;>cases I
      all_goals
        go_wp2_with (first
          |(go_at_call 140;refine(CL.o _ HT.o).mono ?_;rintro e w1 ⟨rfl,k1⟩;have HH1:=ag (k1.iterOf HH.o);have HK1:=ag (HK.o.ak k1);have HT1:=ag (HT.o.keep k1);clear HH HK HT k1)
          |(go_at_call 141;refine(CI.o _ (by first |exact HT.o|exact HT1.o)).mono ?_;rintro e w2 ⟨rfl,k2⟩;first |(have HH2:=ag (k2.iterOf HH.o);have HK2:=ag (HK.o.ak k2))|(have HH2:=ag (k2.iterOf HH1.o);have HK2:=ag (HK1.o.ak k2));clear k2))
        first
          | (go_roundw
             case rel=>exact⟨_,fuel,HH2.o,HK2.o,(by show _=_;rw[←HS.o,HY.o (by rw[HO.o];rfl)]),by omega⟩
             case measure=>rw[iterPos_of HH2.o,HP.o];omega)
          | (go_ret
             refine⟨ay (nameB_no (by rw[HN.o,←HS.o,HNo.o (by rw[HO.o];rfl)])).symm, ?_⟩
             first |exact HK2.o|exact HK1.o)
    · have hnx:∀ty,(Instr.next (.pointer (some ⟨w.heap.size,0,none⟩)) true ty).run Tryz.prog wr=_:=fun ty=>Lib.run_next_end_at wr w.heap.size s pos ty hit hp
      have HK:=ag hk;have HE:=ag (nameFrom_end (s:=s) (f:=fuel) hp);have CR:=ag (fun w=>runes_any s w hs);clear hit hk hpos0;have HB:=ag (nameB_of h0);clear h0;by_cases h16:Lib.runeCount s≤16
      all_goals
        go_wp2_with (refine(CR.o _).mono ?_;rintro e w1 ⟨rfl,k1⟩;have K1:=ag k1;clear k1)
        go_ret;exact⟨ay (by rw[HB.o (by rw[HN.o,←HS.o,HE.o])];simp;omega),HK.o.ak K1.o⟩
theorem okAt_plain (pos:Nat) (r:Int) (Z E L A B C D:Bool) (hz:(pos==0)=Z) (hE:Lib.isLetterU r=E) (hA:decide (48≤r)=A) (hB:decide (r≤57)=B) (hC:(r==46)=C) (hD:(r==95)=D) (hL:(r==65533)=L):
    okAt pos r= !(!(E&& !L)&&(Z||(!(A&&B)&& !C&& !D))):=by
  unfold okAt innerB Cb digitB;rw[hz,hE,hA,hB,hC,hD,hL];cases Z<;>cases E<;>cases A<;>cases B<;>cases C<;>cases D<;>cases L<;>rfl
theorem refName_any (s:ByteArray) (w:World) (ht:Tabs w) (hs:s.size≤9223372036854775807):
    Calls Tryz.prog 83 #[.string s] w fun e w'=>e= .returned (.bool (wy s))∧ai w w' []:=by
  have hc:=Lib.runeCount_le s;obtain⟨N,hN⟩:∃N,qd s s.size 0=N:=⟨_,rfl⟩;have HN:=ag hN;clear hN;go_enter Tryz.func83,Tryz.ntmps83;go_wp2;go_loopw [3] (fun v wr=>∃(pos fuel n:Nat),v= .int .i64 n∧wr.heap[w.heap.size]? =some (.stringIter s pos)∧ai w wr []∧Hid (qd s fuel pos=N)∧Hid (n+Lib.runeCountFrom s fuel pos=Lib.runeCount s)∧Hid (n=0↔pos=0)∧n≤pos∧s.size≤pos+fuel) (fun _ wr=>s.size -wr.iterPos w.heap.size)
  case atStart=>exact⟨0,s.size,0,rfl,World.iter_heap w s 0,(ai.refl _ _).alloc _,HN,by simp[Hid,Lib.runeCount],by simp[Hid],by omega,by omega⟩
  case round=>
    obtain⟨pos,fuel,n,rfl,hit,hk,HS,HC,H0,hn,hf⟩:=hrel;have hpos0:=iterPos_of hit;by_cases hp:pos<s.size
    · have hnx:∀ty,(Instr.next (.pointer (some ⟨w.heap.size,0,none⟩)) true ty).run Tryz.prog wr=_:=fun ty=>Lib.run_next_any_at wr w.heap.size s pos ty hit hp
      have hwd:=Lib.decode_width_pos s pos hp;obtain⟨fuel,rfl⟩:∃f',fuel=f'+1:=⟨fuel -1,by omega⟩;have hit2:=Lib.iterAt_heap wr w.heap.size s pos (pos+(Utf8.decode s pos).2) hit;have hk2:=hk.iterAt (k:=w.heap.size) (.inr (Nat.le_refl _)) s (pos+(Utf8.decode s pos).2);obtain⟨W1,hW1⟩:∃W1,W1=wr.iterAt w.heap.size s (pos+(Utf8.decode s pos).2):=⟨_,rfl⟩;rw[←hW1]at hnx hit2 hk2;have ht1:=ht.keep hk2;have hr1:=decode_le s pos;have HY:=ag (nameFrom_yes (f:=fuel) hp);have HNo:=ag (nameFrom_no (f:=fuel) hp);have HR:=ag (runes_step (f:=fuel) hp);have CL:=ag (fun w h=>isLetter_any ((Utf8.decode s pos).1:Int) w h (by omega) (by omega));obtain⟨Z,hZ⟩:∃Z,(pos==0)=Z:=⟨_,rfl⟩;obtain⟨E,hE⟩:∃Z,Lib.isLetterU ((Utf8.decode s pos).1:Int)=Z:=⟨_,rfl⟩;have hr:∃r:Int,((Utf8.decode s pos).1:Int)=r:=⟨_,rfl⟩;have hwd1:=ag hwd;obtain⟨r,hr⟩:=hr;rw[hr]at hnx HY HNo CL hE;rw[hE]at CL;have HO:Hid (okAt pos r= !(!(E&& !(r==65533))&&(Z||(!(decide (48≤r)&&decide (r≤57))&& !(r==46)&& !(r==95))))):=okAt_plain pos r Z E _ _ _ _ _ hZ hE rfl rfl rfl rfl rfl
      have hZi:((n:Int)==0)=Z:=by
        rw[←hZ,Bool.eq_iff_iff];have:=H0.o;simp;omega
      have HT:=ag ht1;have HH:=ag hit2;have HK:=ag hk2;have HP:=ag hpos0;have hn2:n<9223372036854775807:=(by omega);clear hit hk hit2 hk2 hpos0 hW1 ht1 hr1 hE hr hZ;by_cases c3:r=65533
      · subst c3
        cases Z<;>cases E
        all_goals
          go_wp2_with (refine(CL.o _ HT.o).mono ?_;rintro e w1 ⟨rfl,k1⟩;have HH1:=ag (k1.iterOf HH.o);have HK1:=ag (HK.o.ak k1);clear k1)
          go_ret;exact⟨ay (nameB_no (by rw[HN.o,←HS.o,HNo.o (by rw[HO.o];rfl)])).symm,HK1.o⟩
      have c3b:(r==65533)=false:=(by simpa using c3);have c3c:(r !=65533)=true:=(by simpa using c3);by_cases c1:r=46
      · subst c1
        cases Z<;>cases E
        all_goals
          go_wp2_with (refine(CL.o _ HT.o).mono ?_;rintro e w1 ⟨rfl,k1⟩;have HH1:=ag (k1.iterOf HH.o);have HK1:=ag (HK.o.ak k1);clear k1)
          first
            | (go_roundw
               case rel=>exact⟨_,fuel,n+1,by go_num,HH1.o,HK1.o,(by show _=_;rw[←HS.o,HY.o (by rw[HO.o];rfl)]),(by show _=_;rw[←HC.o,HR.o];omega),(by show _↔_;have:=hwd1.out;omega),by omega,by omega⟩
               case measure=>rw[iterPos_of HH1.o,HP.o];omega)
            | (go_ret
               exact⟨ay (nameB_no (by rw[HN.o,←HS.o,HNo.o (by rw[HO.o];rfl)])).symm,HK1.o⟩)
      have c1b:(r !=46)=true:=(by simpa using c1);have c1c:(r==46)=false:=(by simpa using c1);by_cases c2:r=95
      · subst c2
        cases Z<;>cases E
        all_goals
          go_wp2_with (refine(CL.o _ HT.o).mono ?_;rintro e w1 ⟨rfl,k1⟩;have HH1:=ag (k1.iterOf HH.o);have HK1:=ag (HK.o.ak k1);clear k1)
          first
            | (go_roundw
               case rel=>exact⟨_,fuel,n+1,by go_num,HH1.o,HK1.o,(by show _=_;rw[←HS.o,HY.o (by rw[HO.o];rfl)]),(by show _=_;rw[←HC.o,HR.o];omega),(by show _↔_;have:=hwd1.out;omega),by omega,by omega⟩
               case measure=>rw[iterPos_of HH1.o,HP.o];omega)
            | (go_ret
               exact⟨ay (nameB_no (by rw[HN.o,←HS.o,HNo.o (by rw[HO.o];rfl)])).symm,HK1.o⟩)
      have c2b:(r !=95)=true:=(by simpa using c2);have c2c:(r==95)=false:=(by simpa using c2);have c45:48≤r∨r≤57:=(by omega);by_cases c4:48≤r<;>by_cases c5:r≤57
      rotate_left 3
      · exfalso;omega
      all_goals cases Z<;>cases E
      all_goals
        have HO2:=ag HO.o;simp only[Hid,c3b,c1c,c2c,c4,c5,decide_true,decide_false]at HO2;have HO3:=ag HO2;clear HO2
        first
          |have hdA:=decide_eq_true c4
          |have hdA:=decide_eq_false c4
        first
          |have hdB:=decide_eq_true c5
          |have hdB:=decide_eq_false c5
        go_wp2_with (refine(CL.o _ HT.o).mono ?_;rintro e w1 ⟨rfl,k1⟩;have HH1:=ag (k1.iterOf HH.o);have HK1:=ag (HK.o.ak k1);clear k1)
        first
          | (go_roundw
             case rel=>exact⟨_,fuel,n+1,by go_num,HH1.o,HK1.o,(by show _=_;rw[←HS.o,HY.o (by rw[HO3.o];rfl)]),(by show _=_;rw[←HC.o,HR.o];omega),(by show _↔_;have:=hwd1.out;omega),by omega,by omega⟩
             case measure=>rw[iterPos_of HH1.o,HP.o];omega)
          | (go_ret
             exact⟨ay (nameB_no (by rw[HN.o,←HS.o,HNo.o (by rw[HO3.o];rfl)])).symm,HK1.o⟩)
        all_goals(exfalso;rename_i hx;revert hx;simp;omega)
    · have hnx:∀ty,(Instr.next (.pointer (some ⟨w.heap.size,0,none⟩)) true ty).run Tryz.prog wr=_:=fun ty=>Lib.run_next_end_at wr w.heap.size s pos ty hit hp
      have HK:=ag hk;have HE:=ag (nameFrom_end (s:=s) (f:=fuel) hp);have HX:Hid (N=true):=by show _=_;rw[←HS.o,HE.o]
      have hnc:Hid (n=Lib.runeCount s):=by
        have:=HC.o;rw[Lib.runeCountFrom_end s fuel pos hp]at this;show _=_;omega
      clear hit hk hpos0
      have h1:wy s=(decide (1≤n)&&decide (n≤16)):=by
        have e1:=hnc.out;have e2:=H0.o
        have:decide (s.size≠0)=decide (1≤n):=by
          rw[decide_eq_decide];constructor
          · intro _;omega
          · intro _;omega
        unfold wy;rw[HN.o,HX.o,←e1,this];rfl
      have H1:=ag h1;clear h1;have hor:1≤n∨n≤16:=(by omega);by_cases h1:(1:Int)≤(n:Int)<;>by_cases h16:(n:Int)≤16
      · go_wp2
        go_ret;exact⟨ay (by rw[H1.o];simp;omega),HK.o⟩
      · go_wp2
        go_ret;exact⟨ay (by rw[H1.o];simp;omega),HK.o⟩
      · go_wp2
        go_ret;exact⟨ay (by rw[H1.o];simp;omega),HK.o⟩
      · exfalso;omega
end Go.Proofs.YtjllbchfojonhaaGreatDoor
