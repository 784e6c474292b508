/- What is written is read, whatever stands behind; cut anywhere it is cut off. No condition. -/
import Derived.Test.YthbhggpajgokcaaXax16
import Derived.Test.YthbhggpajgokcaaNumQ
namespace Go.Proofs.Ythbhggpajgokcaa.Pure
open Go.RowKit Go.Proofs.Ythbhggpajgokcaa.Xa Go.Proofs.Ythbhggpajgokcaa.Ext Go.Proofs.YthbhggpajgokcaaW.PrintWords Go.Proofs.YthbhggpajgokcaaW.PrintLast

theorem NumberBack : transeptlaw01_NumberBack.Pure := by
  intro a0 a1 l2 a3 w0 w1 hm hn hw w3
  obtain ⟨h00, h01⟩ := u64_bounds w0
  have hb := bytes_wf hw
  refine ⟨20, ?_⟩
  unfold transeptlaw01_NumberBack.f
  rw [shown_f 20 (by omega)]
  simp only [Option.bind_some, List.nil_append, List.length_nil]
  obtain ⟨k1, k2, k3⟩ := mn_le (a1.size : Int) 200
  have hk : 0 ≤ mn (a1.size : Int) 200 := by omega
  generalize mn (a1.size : Int) 200 = n at *
  obtain ⟨j1, j2, j3⟩ := mn_le (l2.length : Int) 50
  have hj : 0 ≤ mn (l2.length : Int) 50 := by omega
  generalize mn (l2.length : Int) 50 = n1 at *
  have hs : (a1.extract 0 n.toNat).size = n.toNat := by rw [ByteArray.size_extract]; omega
  generalize a1.extract 0 n.toNat = s at *
  have hlen : (l2.take n1.toNat).length = n1.toNat := by rw [List.length_take]; omega
  have hbb := hb.take n1.toNat
  generalize l2.take n1.toNat = r at *
  rw [if_pos hk, if_pos k1, if_pos hj, if_pos j1, put_f 20 [] a0 h00 h01 (by omega) (by simp), putText_f 20 s (by omega) (by omega) [] (by simp)]
  simp only [Option.bind_some, List.nil_append]
  have hp := put_len10 a0.toNat (by omega)
  have hpp := put_pos a0.toNat
  have hq := put_len10 s.size (by omega)
  have hqp := put_pos s.size
  have hL : (put s.size ++ bytesOf s).length = (put s.size).length + s.size := by rw [List.length_append, bytesOf_len]
  have hgb : Bytes (put a0.toNat ++ r) := (put_bytes _).append hbb
  rw [get_f _ hgb (by rw [List.length_append]; omega), get_put _ _ (by omega)]
  obtain ⟨m0, m1⟩ := tmod_range (Go.bits .and .i64 a3 65535) ((put a0.toNat).length : Int) (and_range a3).1 (by omega)
  generalize Int.tmod (Go.bits .and .i64 a3 65535) ((put a0.toNat).length : Int) = K at *
  obtain ⟨o0, o1⟩ := tmod_range (Go.bits .and .i64 a3 65535) ((put s.size ++ bytesOf s).length : Int) (and_range a3).1 (by omega)
  generalize Int.tmod (Go.bits .and .i64 a3 65535) ((put s.size ++ bytesOf s).length : Int) = M at *
  rw [get_f _ ((put_bytes _).take _) (by rw [List.length_take]; omega), get_cut _ _ (by omega) (by omega), text_ok 20 (by omega) s r hbb (by omega) (by omega)]
  obtain ⟨t, ht⟩ := text_cut 20 (by omega) s M.toNat (by omega) (by omega)
  rw [ht]
  simp only [Option.bind_some]
  rw [if_neg (by omega), if_pos (by omega), if_pos (by omega), if_pos (by omega), if_pos (by omega), if_pos (by omega), if_pos (by omega), if_neg (by omega), if_pos (by omega), if_pos (by omega), if_pos trivial, if_pos (by omega)]
  simp [Int.toNat_of_nonneg m0, Int.toNat_of_nonneg o0]
end Go.Proofs.Ythbhggpajgokcaa.Pure
